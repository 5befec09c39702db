/-
  JsonNames: for every input whose bulk is at most 1048576 the law returns true, and each argument reads behind the call as it read before; part 7 of 8 of the proof: an interpreter of the model's code over typed data, proved sound; the functions that the law reaches, printed as Lean functions and tied; the plain law. Own texts laid one behind the other.
-/
import Derived.Test.YtmlkkgfenfdndaaGreatDoorJsonNamesB6
set_option linter.unusedSimpArgs false
set_option linter.unnecessarySimpa false
set_option linter.unusedVariables false
set_option linter.unusedSectionVars false
/-
  Functions of the program as pure Lean functions, and the ties; printed by wip/tools/emit.py.
-/
set_option maxRecDepth 100000
namespace Go.Proofs.YtmlkkgfenfdndaaGreatDoor
open Go Go.ax

/-! ### internal/strconv.underscoreOK -/
abbrev ek (R:Type):Type:=ak→(Bool→Option R)→Option R
abbrev ic:List bJ := [.leaf (.str)]
abbrev ie:List aF := []
noncomputable def oJ {R:Type} (fn:ek R):bJ.au ic→aF.au ie→(V→ay→Option R)→Option R:=fun x y k=>fn x.1 (fun q0=>k (.bool q0) [])
abbrev dz (R:Type):Type:=Nat→ak→Int→Int→Bool→(Int→Option R)→(Bool→Int→Option R)→Option R
noncomputable def dK (R:Type) (internal_strconv_lower:cf R):Env R:=fun i=>match i with
  | 176=>some (true,(az jI jJ (oc internal_strconv_lower) aZ))
  | _=>none
theorem vZ (R:Type):po Tryz.prog (dK R internal_strconv_lower):=by
  intro i b sp h
  unfold dK at h
  split at h
  · cases h; exact ⟨(rM R _ (aM _)),fun h=>nomatch h⟩
  · cases h

noncomputable def na {R:Type} (internal_strconv_lower:cf R) (gm:ak→Int→Int→Bool→Option R) (pj:ak) (sK:Int) (mz:Int) (sL:Bool) (e0:Int→Option R) (e1:Bool→Int→Option R):Option R :=
  bif (decide (mz<(pj.length:Int)))then (cR (decide ((0:Int)≤mz)&&decide (mz<pj.length)) (bif (decide ((48:Int)≤((pj.getD mz.toNat 0).toNat:Int)))then (cR (decide ((0:Int)≤mz)&&decide (mz<pj.length)) (bif (decide (((pj.getD mz.toNat 0).toNat:Int)≤(57:Int)))then (gm pj 48 (IntKind.i64.wrap (mz+1)) sL)else (bif sL then (cR (decide ((0:Int)≤mz)&&decide (mz<pj.length)) (internal_strconv_lower ((pj.getD mz.toNat 0).toNat:Int) (fun XC=>bif (decide ((97:Int)≤XC))then (cR (decide ((0:Int)≤mz)&&decide (mz<pj.length)) (internal_strconv_lower ((pj.getD mz.toNat 0).toNat:Int) (fun Td=>bif (decide (Td≤(102:Int)))then (gm pj 48 (IntKind.i64.wrap (mz+1)) sL)else (cR (decide ((0:Int)≤mz)&&decide (mz<pj.length)) (bif (((pj.getD mz.toNat 0).toNat:Int)==95)then (bif (sK != 48)then (e1 false sK)else (gm pj 95 (IntKind.i64.wrap (mz+1)) sL))else (bif (sK==95)then (e1 false sK)else (gm pj 33 (IntKind.i64.wrap (mz+1)) sL)))))))else (cR (decide ((0:Int)≤mz)&&decide (mz<pj.length)) (bif (((pj.getD mz.toNat 0).toNat:Int)==95)then (bif (sK != 48)then (e1 false sK)else (gm pj 95 (IntKind.i64.wrap (mz+1)) sL))else (bif (sK==95)then (e1 false sK)else (gm pj 33 (IntKind.i64.wrap (mz+1)) sL)))))))else (cR (decide ((0:Int)≤mz)&&decide (mz<pj.length)) (bif (((pj.getD mz.toNat 0).toNat:Int)==95)then (bif (sK != 48)then (e1 false sK)else (gm pj 95 (IntKind.i64.wrap (mz+1)) sL))else (bif (sK==95)then (e1 false sK)else (gm pj 33 (IntKind.i64.wrap (mz+1)) sL)))))))else (bif sL then (cR (decide ((0:Int)≤mz)&&decide (mz<pj.length)) (internal_strconv_lower ((pj.getD mz.toNat 0).toNat:Int) (fun MS=>bif (decide ((97:Int)≤MS))then (cR (decide ((0:Int)≤mz)&&decide (mz<pj.length)) (internal_strconv_lower ((pj.getD mz.toNat 0).toNat:Int) (fun Vo=>bif (decide (Vo≤(102:Int)))then (gm pj 48 (IntKind.i64.wrap (mz+1)) sL)else (cR (decide ((0:Int)≤mz)&&decide (mz<pj.length)) (bif (((pj.getD mz.toNat 0).toNat:Int)==95)then (bif (sK != 48)then (e1 false sK)else (gm pj 95 (IntKind.i64.wrap (mz+1)) sL))else (bif (sK==95)then (e1 false sK)else (gm pj 33 (IntKind.i64.wrap (mz+1)) sL)))))))else (cR (decide ((0:Int)≤mz)&&decide (mz<pj.length)) (bif (((pj.getD mz.toNat 0).toNat:Int)==95)then (bif (sK != 48)then (e1 false sK)else (gm pj 95 (IntKind.i64.wrap (mz+1)) sL))else (bif (sK==95)then (e1 false sK)else (gm pj 33 (IntKind.i64.wrap (mz+1)) sL)))))))else (cR (decide ((0:Int)≤mz)&&decide (mz<pj.length)) (bif (((pj.getD mz.toNat 0).toNat:Int)==95)then (bif (sK != 48)then (e1 false sK)else (gm pj 95 (IntKind.i64.wrap (mz+1)) sL))else (bif (sK==95)then (e1 false sK)else (gm pj 33 (IntKind.i64.wrap (mz+1)) sL)))))))else (e0 sK)
noncomputable def aA {R:Type}:dz R
  | 0,_,_,_,_,_,_=>none
  | n+1,mQ,mR,nI,xl,e0,e1=>na internal_strconv_lower (fun mQ mR nI xl=>aA n mQ mR nI xl e0 e1) mQ mR nI xl e0 e1
noncomputable def fW:Hint := { live := [0,3,4,5],own := [],rows := [],cells := [],drop := [],out := [2,3] }
abbrev cD:Type:=ak × Int × Int × Bool
noncomputable def fG:cD→St:=fun d=>⟨[.str d.1, .undef, .undef, .int .i32 d.2.1, .int .i64 d.2.2.1, .bool d.2.2.2, .undef, .undef, .undef, .undef, .undef, .undef, .undef, .undef, .undef, .undef, .undef, .undef, .undef, .undef, .undef, .undef, .undef, .undef, .undef, .undef, .undef, .undef, .undef, .undef, .undef, .undef, .undef, .undef, .undef, .undef, .undef, .undef, .undef, .undef, .undef, .undef, .undef, .undef, .undef, .undef, .undef, .undef, .undef, .undef, .undef, .undef, .undef, .undef, .undef, .undef, .undef, .undef, .undef, .undef, .undef, .undef, .undef, .undef, .undef, .undef, .undef, .undef, .undef, .undef, .undef, .undef, .undef, .undef, .undef, .undef, .undef, .undef, .undef, .undef, .undef, .undef, .undef, .undef, .undef, .undef, .undef, .undef, .undef, .undef, .undef, .undef, .undef, .undef], []⟩
noncomputable def iY {R:Type} (K:Ex→St→Option R) (q0:Int):Option R:=K (.exit 0) ⟨[.undef, .undef, .undef, .int .i32 q0, .undef, .undef, .undef, .undef, .undef, .undef, .undef, .undef, .undef, .undef, .undef, .undef, .undef, .undef, .undef, .undef, .undef, .undef, .undef, .undef, .undef, .undef, .undef, .undef, .undef, .undef, .undef, .undef, .undef, .undef, .undef, .undef, .undef, .undef, .undef, .undef, .undef, .undef, .undef, .undef, .undef, .undef, .undef, .undef, .undef, .undef, .undef, .undef, .undef, .undef, .undef, .undef, .undef, .undef, .undef, .undef, .undef, .undef, .undef, .undef, .undef, .undef, .undef, .undef, .undef, .undef, .undef, .undef, .undef, .undef, .undef, .undef, .undef, .undef, .undef, .undef, .undef, .undef, .undef, .undef, .undef, .undef, .undef, .undef, .undef, .undef, .undef, .undef, .undef, .undef], []⟩
noncomputable def iZ {R:Type} (K:Ex→St→Option R) (q0:Bool) (q1:Int):Option R:=K (.ret) ⟨[.undef, .undef, .bool q0, .int .i32 q1, .undef, .undef, .undef, .undef, .undef, .undef, .undef, .undef, .undef, .undef, .undef, .undef, .undef, .undef, .undef, .undef, .undef, .undef, .undef, .undef, .undef, .undef, .undef, .undef, .undef, .undef, .undef, .undef, .undef, .undef, .undef, .undef, .undef, .undef, .undef, .undef, .undef, .undef, .undef, .undef, .undef, .undef, .undef, .undef, .undef, .undef, .undef, .undef, .undef, .undef, .undef, .undef, .undef, .undef, .undef, .undef, .undef, .undef, .undef, .undef, .undef, .undef, .undef, .undef, .undef, .undef, .undef, .undef, .undef, .undef, .undef, .undef, .undef, .undef, .undef, .undef, .undef, .undef, .undef, .undef, .undef, .undef, .undef, .undef, .undef, .undef, .undef, .undef, .undef, .undef], []⟩
noncomputable def jk {R:Type} (internal_strconv_lower:cf R) (K:Ex→St→Option R) (rc:cD→Option R) (d:cD):Option R:=na internal_strconv_lower (fun z0 z1 z2 z3=>rc (z0,z1,z2,z3)) d.1 d.2.1 d.2.2.1 d.2.2.2 (iY K) (iZ K)
noncomputable def dG {R:Type} (K:Ex→St→Option R) (n:Nat) (d:cD):Option R:=aA n d.1 d.2.1 d.2.2.1 d.2.2.2 (iY K) (iZ K)
abbrev cE:List bJ := [.leaf (.str), .leaf (.undef), .leaf (.undef), .leaf (.int .i32), .leaf (.int .i64), .leaf (.bool), .leaf (.undef), .leaf (.undef), .leaf (.undef), .leaf (.undef), .leaf (.undef), .leaf (.undef), .leaf (.undef), .leaf (.undef), .leaf (.undef), .leaf (.undef), .leaf (.undef), .leaf (.undef), .leaf (.undef), .leaf (.undef), .leaf (.undef), .leaf (.undef), .leaf (.undef), .leaf (.undef), .leaf (.undef), .leaf (.undef), .leaf (.undef), .leaf (.undef), .leaf (.undef), .leaf (.undef), .leaf (.undef), .leaf (.undef), .leaf (.undef), .leaf (.undef), .leaf (.undef), .leaf (.undef), .leaf (.undef), .leaf (.undef), .leaf (.undef), .leaf (.undef), .leaf (.undef), .leaf (.undef), .leaf (.undef), .leaf (.undef), .leaf (.undef), .leaf (.undef), .leaf (.undef), .leaf (.undef), .leaf (.undef), .leaf (.undef), .leaf (.undef), .leaf (.undef), .leaf (.undef), .leaf (.undef), .leaf (.undef), .leaf (.undef), .leaf (.undef), .leaf (.undef), .leaf (.undef), .leaf (.undef), .leaf (.undef), .leaf (.undef), .leaf (.undef), .leaf (.undef), .leaf (.undef), .leaf (.undef), .leaf (.undef), .leaf (.undef), .leaf (.undef), .leaf (.undef), .leaf (.undef), .leaf (.undef), .leaf (.undef), .leaf (.undef), .leaf (.undef), .leaf (.undef), .leaf (.undef), .leaf (.undef), .leaf (.undef), .leaf (.undef), .leaf (.undef), .leaf (.undef), .leaf (.undef), .leaf (.undef), .leaf (.undef), .leaf (.undef), .leaf (.undef), .leaf (.undef), .leaf (.undef), .leaf (.undef), .leaf (.undef), .leaf (.undef), .leaf (.undef), .leaf (.undef)]
abbrev cF:List aF := []
noncomputable def jl (x:bJ.au cE) (y:aF.au cF):Nat:=(List.length x.1+Int.natAbs x.2.2.2.1+Int.natAbs x.2.2.2.2.1+64)
noncomputable def jm (x:bJ.au cE) (y:aF.au cF):cD:=(x.1,x.2.2.2.1,x.2.2.2.2.1,x.2.2.2.2.2.1)
noncomputable def ja {R:Type} (L:dz R):bJ.au cE→aF.au cF→(Ex→St→Option R)→Option R:=fun x y K=>L (jl x y) x.1 x.2.2.2.1 x.2.2.2.2.1 x.2.2.2.2.2.1 (iY K) (iZ K)
noncomputable def fO (R:Type) (aA:dz R):Nat→Option (Hint × cd R):=fun i=>match i with
  | 10=>some (fW,(gq cE cF (ja aA) qg))
  | _=>none

theorem r8 {R:Type} (internal_strconv_lower:cf R) (aA:dz R) (K:Ex→St→Option R) (rc:St→Option R) (d:cD):roundOf tt (dK R internal_strconv_lower) (fO R aA) 0 ((aO (aI Tryz.f177)).getD 0 .skip) fW (fG d) rc K=jk internal_strconv_lower K (fun d=>rc (fG d)) d:=by kernel_rfl
theorem qJ {R:Type} (K:Ex→St→Option R) (n:Nat) (d:cD):dG K (n+1) d=jk internal_strconv_lower K (dG K n) d:=by kernel_rfl
theorem qK {R:Type} (K:Ex→St→Option R) (d:cD):dG K 0 d=none:=by kernel_rfl
theorem r9 (x:bJ.au cE) (y:aF.au cF):(⟨bJ.cL cE x,aF.cL cF y⟩:St)=fG (jm x y):=by kernel_rfl
theorem sa {R:Type} (x:bJ.au cE) (y:aF.au cF) (K:Ex→St→Option R):ja (aA) x y K=dG K (jl x y) (jm x y):=by kernel_rfl
theorem s8 {R:Type} (other:cd R) (ho:ph tt (dK R internal_strconv_lower) (fO R aA) 0 ((aO (aI Tryz.f177)).getD 0 .skip) fW other):ph tt (dK R internal_strconv_lower) (fO R aA) 0 ((aO (aI Tryz.f177)).getD 0 .skip) fW (gq cE cF (ja (aA)) other) :=
  gQ (A:=dG) ho (kO fG (jk internal_strconv_lower) (dG) (qK) (r8 internal_strconv_lower aA) (qJ)) jl jm r9 (sa)

noncomputable def pc {R:Type} (internal_strconv_lower:cf R) (aA:dz R) (x1:ak) (k0:Bool→Option R):Option R :=
  let j46:=fun (z3:ak)=>bif (decide ((z3.length:Int)≥(2:Int)))then (cR (decide ((0:Int)<z3.length)) (bif (((z3.getD 0 0).toNat:Int)==48)then (cR (decide ((1:Int)<z3.length)) (internal_strconv_lower ((z3.getD 1 0).toNat:Int) (fun y4=>bif (y4==98)then (cR (decide ((1:Int)<z3.length)) (internal_strconv_lower ((z3.getD 1 0).toNat:Int) (fun y9=>aA (List.length z3+Int.natAbs 48+Int.natAbs 2+64) z3 48 2 (y9==120) (fun Im=>k0 (Im != 95)) (fun MT Mr=>k0 MT))))else (cR (decide ((1:Int)<z3.length)) (internal_strconv_lower ((z3.getD 1 0).toNat:Int) (fun y5=>bif (y5==111)then (cR (decide ((1:Int)<z3.length)) (internal_strconv_lower ((z3.getD 1 0).toNat:Int) (fun B5=>aA (List.length z3+Int.natAbs 48+Int.natAbs 2+64) z3 48 2 (B5==120) (fun OS=>k0 (OS != 95)) (fun Ms y33=>k0 Ms))))else (cR (decide ((1:Int)<z3.length)) (internal_strconv_lower ((z3.getD 1 0).toNat:Int) (fun y6=>bif (y6==120)then (cR (decide ((1:Int)<z3.length)) (internal_strconv_lower ((z3.getD 1 0).toNat:Int) (fun B6=>aA (List.length z3+Int.natAbs 48+Int.natAbs 2+64) z3 48 2 (B6==120) (fun y34=>k0 (y34 != 95)) (fun y35 y36=>k0 y35))))else (aA (List.length z3+Int.natAbs 94+Int.natAbs 0+64) z3 94 0 false (fun YG=>k0 (YG != 95)) (fun y38 y39=>k0 y38)))))))))))else (aA (List.length z3+Int.natAbs 94+Int.natAbs 0+64) z3 94 0 false (fun y40=>k0 (y40 != 95)) (fun y41 Sj=>k0 y41))))else (aA (List.length z3+Int.natAbs 94+Int.natAbs 0+64) z3 94 0 false (fun Vp=>k0 (Vp != 95)) (fun Vq Zs=>k0 Vq)); bif (decide ((x1.length:Int)≥(1:Int)))then (cR (decide ((0:Int)<x1.length)) (bif (((x1.getD 0 0).toNat:Int)==45)then (cR (decide ((0:Int)≤(x1.length:Int))&&decide ((x1.length:Int)≤x1.length)) (cR (decide ((1:Int)≤(x1.length:Int))) (j46 ((x1.drop 1).take ((x1.length:Int).toNat - 1)))))else (cR (decide ((0:Int)<x1.length)) (bif (((x1.getD 0 0).toNat:Int)==43)then (cR (decide ((0:Int)≤(x1.length:Int))&&decide ((x1.length:Int)≤x1.length)) (cR (decide ((1:Int)≤(x1.length:Int))) (j46 ((x1.drop 1).take ((x1.length:Int).toNat - 1)))))else (j46 x1)))))else (j46 x1)
noncomputable def bn {R:Type}:ek R:=fun x1 k0=>pc internal_strconv_lower aA x1 k0
theorem wU {R:Type} (internal_strconv_lower:cf R) (aA:dz R) (x1:ak) (k:V→ay→Option R):iq tt (dK R internal_strconv_lower) (fO R aA) false Tryz.f177 (aI Tryz.f177) [.str x1] [] k =
    pc internal_strconv_lower aA x1 (fun q0=>k (.bool q0) []):=by kernel_rfl
theorem uv (R:Type):∀a∈aO (aI Tryz.f177),cG tt (dK R internal_strconv_lower) (fO R aA) 0 a:=by
  refine bB 1 (by kernel_rfl) fun i hi => ?_
  match i,hi with
  | 0,_=>exact fT (by kernel_rfl) (s8 _ jA)
  | n+1,hi=>omega
theorem vq (R:Type) (other:ax.Spec R) (ho:ax.Spec.Ok Tryz.prog 177 other):ax.Spec.Ok Tryz.prog 177 (az ic ie (oJ bn) other) :=
  bm ho (bc TT mixed (vZ R) (keep:=false) rfl rfl rfl rfl 0 (uv R)) fun (x:bJ.au ic) (y:aF.au ie) k=>wU internal_strconv_lower aA x.1 k

end Go.Proofs.YtmlkkgfenfdndaaGreatDoor

/-
  Functions of the program as pure Lean functions, and the ties; printed by wip/tools/emit.py.
-/
set_option maxRecDepth 100000
namespace Go.Proofs.YtmlkkgfenfdndaaGreatDoor
open Go Go.ax

/-! ### internal/strconv.ParseUint -/
abbrev gn (R:Type):Type:=ak→Int→Int→(Int→Option R)→(Int→Option R)→(Int→Option R)→(Int→Option R)→(Int→Option R)→Option R
abbrev jR:List bJ := [.leaf (.str), .leaf (.int .i64), .leaf (.int .i64)]
abbrev jS:List aF := []
noncomputable def qa {R:Type} (fn:gn R):bJ.au jR→aF.au jS→(V→ay→Option R)→Option R:=fun x y k=>fn x.1 x.2.1 x.2.2.1 (fun q0=>k (.tuple [.int .u64 q0, .Em 184 .i64 2]) []) (fun q0=>k (.tuple [.int .u64 q0, .Em 184 .i64 3]) []) (fun q0=>k (.tuple [.int .u64 q0, .Em 184 .i64 4]) []) (fun q0=>k (.tuple [.int .u64 q0, .Em 184 .i64 1]) []) (fun q0=>k (.tuple [.int .u64 q0, .cJ]) [])
abbrev dT (R:Type):Type:=Nat→Int→Bool→ak→Int→Int→Bool→Int→Nat→Int→Int→(List Int)→(ak→Bool→Int→Option R)→(Int→ak→Bool→Int→Option R)→(Int→ak→Bool→Int→Option R)→(Int→ak→Bool→Option R)→Option R
noncomputable def eA (R:Type) (internal_strconv_lower:cf R) (bn:ek R):Env R:=fun i=>match i with
  | 176=>some (true,(az jI jJ (oc internal_strconv_lower) aZ))
  | 177=>some (true,(az ic ie (oJ bn) aZ))
  | _=>none
theorem yd (R:Type):po Tryz.prog (eA R internal_strconv_lower bn):=by
  intro i b sp h
  unfold eA at h
  split at h
  · cases h; exact ⟨(rM R _ (aM _)),fun h=>nomatch h⟩
  · cases h; exact ⟨(vq R _ (aM _)),fun h=>nomatch h⟩
  · cases h

noncomputable def n7 {R:Type} (internal_strconv_lower:cf R) (gm:Int→Bool→ak→Int→Int→Bool→Int→Nat→Int→Int→(List Int)→Option R) (zT:Int) (x21:Bool) (XD:ak) (Zt:Int) (Vr:Int) (Vs:Bool) (Ph:Int) (x27:Nat) (YH:Int) (HV:Int) (Tg:List Int) (e0:ak→Bool→Int→Option R) (e1:Int→ak→Bool→Int→Option R) (e2:Int→ak→Bool→Int→Option R) (e3:Int→ak→Bool→Option R):Option R :=
  bif (decide (HV<YH))then (cR (decide ((0:Int)≤HV)&&decide (HV<x27)) (cR (decide (HV.toNat<Tg.length)) (let j42:=fun (z40:Int)=>bif (decide (z40≥(IntKind.u8.wrap zT)))then (e1 0 XD Vs Ph)else (bif (decide (Ph≥Zt))then (e2 Vr XD Vs Ph)else (bif (decide ((IntKind.u64.wrap ((IntKind.u64.wrap (Ph*(IntKind.u64.wrap zT)))+(IntKind.u64.wrap z40)))<(IntKind.u64.wrap (Ph*(IntKind.u64.wrap zT)))))then (e2 Vr XD Vs (IntKind.u64.wrap (Ph*(IntKind.u64.wrap zT))))else (bif (decide ((IntKind.u64.wrap ((IntKind.u64.wrap (Ph*(IntKind.u64.wrap zT)))+(IntKind.u64.wrap z40)))>Vr))then (e2 Vr XD Vs (IntKind.u64.wrap (Ph*(IntKind.u64.wrap zT))))else (gm zT x21 XD Zt Vr Vs (IntKind.u64.wrap ((IntKind.u64.wrap (Ph*(IntKind.u64.wrap zT)))+(IntKind.u64.wrap z40))) x27 YH (IntKind.i64.wrap (HV+1)) Tg)))); let j39:=fun (z31:Bool)=>bif z31 then (gm zT x21 XD Zt Vr true Ph x27 YH (IntKind.i64.wrap (HV+1)) Tg)else (let j38:=fun (z32:Bool)=>bif z32 then (j42 (IntKind.u8.wrap ((Tg.getD HV.toNat (Ty.cg (.int .u8))) - 48)))else (internal_strconv_lower (Tg.getD HV.toNat (Ty.cg (.int .u8))) (fun y33=>bif (decide ((97:Int)≤y33))then (internal_strconv_lower (Tg.getD HV.toNat (Ty.cg (.int .u8))) (fun y34=>bif (decide (y34≤(122:Int)))then (internal_strconv_lower (Tg.getD HV.toNat (Ty.cg (.int .u8))) (fun YG=>j42 (IntKind.u8.wrap ((IntKind.u8.wrap (YG - 97))+10))))else (e1 0 XD Vs Ph)))else (e1 0 XD Vs Ph))); bif (decide ((48:Int)≤(Tg.getD HV.toNat (Ty.cg (.int .u8)))))then (j38 (decide ((Tg.getD HV.toNat (Ty.cg (.int .u8)))≤(57:Int))))else (j38 false)); bif ((Tg.getD HV.toNat (Ty.cg (.int .u8)))==95)then (j39 x21)else (j39 false))))else (e0 XD Vs Ph)
noncomputable def aV {R:Type}:dT R
  | 0,_,_,_,_,_,_,_,_,_,_,_,_,_,_,_=>none
  | n+1,mQ,mR,nI,xl,FE,FF,OU,OV,OW,OX,DC,e0,e1,e2,e3=>n7 internal_strconv_lower (fun mQ mR nI xl FE FF OU OV OW OX DC=>aV n mQ mR nI xl FE FF OU OV OW OX DC e0 e1 e2 e3) mQ mR nI xl FE FF OU OV OW OX DC e0 e1 e2 e3
noncomputable def gJ:Hint := { live := [1,8,9,10,11,12,13,99,100,101],own := [],rows := [],cells := [],drop := [],out := [6,7,9,12,13] }
abbrev cV:Type:=Int × Bool × ak × Int × Int × Bool × Int × Nat × Int × Int × (List Int)
noncomputable def gl:cV→St:=fun d=>⟨[.undef, .int .i64 d.1, .undef, .undef, .undef, .undef, .undef, .undef, .bool d.2.1, .str d.2.2.1, .int .u64 d.2.2.2.1, .int .u64 d.2.2.2.2.1, .bool d.2.2.2.2.2.1, .int .u64 d.2.2.2.2.2.2.1, .undef, .undef, .undef, .undef, .undef, .undef, .undef, .undef, .undef, .undef, .undef, .undef, .undef, .undef, .undef, .undef, .undef, .undef, .undef, .undef, .undef, .undef, .undef, .undef, .undef, .undef, .undef, .undef, .undef, .undef, .undef, .undef, .undef, .undef, .undef, .undef, .undef, .undef, .undef, .undef, .undef, .undef, .undef, .undef, .undef, .undef, .undef, .undef, .undef, .undef, .undef, .undef, .undef, .undef, .undef, .undef, .undef, .undef, .undef, .undef, .undef, .undef, .undef, .undef, .undef, .undef, .undef, .undef, .undef, .undef, .undef, .undef, .undef, .undef, .undef, .undef, .undef, .undef, .undef, .undef, .undef, .undef, .undef, .undef, .undef, .row 0 d.2.2.2.2.2.2.2.1, .int .i64 d.2.2.2.2.2.2.2.2.1, .int .i64 d.2.2.2.2.2.2.2.2.2.1, .undef, .undef, .undef, .undef, .undef, .undef, .undef, .undef, .undef, .undef, .undef, .undef, .undef, .undef, .undef, .undef, .undef, .undef, .undef, .undef, .undef, .undef, .undef, .undef, .undef, .undef, .undef, .undef, .undef, .undef, .undef, .undef, .undef, .undef, .undef, .undef, .undef, .undef, .undef, .undef, .undef, .undef, .undef, .undef, .undef, .undef, .undef, .undef, .undef, .undef, .undef, .undef, .undef, .undef, .undef, .undef, .undef, .undef, .undef, .undef, .undef, .undef, .undef, .undef, .undef, .undef, .undef, .undef, .undef, .undef], [.row (.int .u8) d.2.2.2.2.2.2.2.2.2.2]⟩
noncomputable def jT {R:Type} (K:Ex→St→Option R) (q0:ak) (q1:Bool) (q2:Int):Option R:=K (.exit 3) ⟨[.undef, .undef, .undef, .undef, .undef, .undef, .undef, .undef, .undef, .str q0, .undef, .undef, .bool q1, .int .u64 q2, .undef, .undef, .undef, .undef, .undef, .undef, .undef, .undef, .undef, .undef, .undef, .undef, .undef, .undef, .undef, .undef, .undef, .undef, .undef, .undef, .undef, .undef, .undef, .undef, .undef, .undef, .undef, .undef, .undef, .undef, .undef, .undef, .undef, .undef, .undef, .undef, .undef, .undef, .undef, .undef, .undef, .undef, .undef, .undef, .undef, .undef, .undef, .undef, .undef, .undef, .undef, .undef, .undef, .undef, .undef, .undef, .undef, .undef, .undef, .undef, .undef, .undef, .undef, .undef, .undef, .undef, .undef, .undef, .undef, .undef, .undef, .undef, .undef, .undef, .undef, .undef, .undef, .undef, .undef, .undef, .undef, .undef, .undef, .undef, .undef, .undef, .undef, .undef, .undef, .undef, .undef, .undef, .undef, .undef, .undef, .undef, .undef, .undef, .undef, .undef, .undef, .undef, .undef, .undef, .undef, .undef, .undef, .undef, .undef, .undef, .undef, .undef, .undef, .undef, .undef, .undef, .undef, .undef, .undef, .undef, .undef, .undef, .undef, .undef, .undef, .undef, .undef, .undef, .undef, .undef, .undef, .undef, .undef, .undef, .undef, .undef, .undef, .undef, .undef, .undef, .undef, .undef, .undef, .undef, .undef, .undef, .undef, .undef, .undef, .undef, .undef, .undef, .undef, .undef, .undef, .undef, .undef, .undef], []⟩
noncomputable def jU {R:Type} (K:Ex→St→Option R) (q0:Int) (q1:ak) (q2:Bool) (q3:Int):Option R:=K (.ret) ⟨[.undef, .undef, .undef, .undef, .undef, .undef, .int .u64 q0, .Em 184 .i64 2, .undef, .str q1, .undef, .undef, .bool q2, .int .u64 q3, .undef, .undef, .undef, .undef, .undef, .undef, .undef, .undef, .undef, .undef, .undef, .undef, .undef, .undef, .undef, .undef, .undef, .undef, .undef, .undef, .undef, .undef, .undef, .undef, .undef, .undef, .undef, .undef, .undef, .undef, .undef, .undef, .undef, .undef, .undef, .undef, .undef, .undef, .undef, .undef, .undef, .undef, .undef, .undef, .undef, .undef, .undef, .undef, .undef, .undef, .undef, .undef, .undef, .undef, .undef, .undef, .undef, .undef, .undef, .undef, .undef, .undef, .undef, .undef, .undef, .undef, .undef, .undef, .undef, .undef, .undef, .undef, .undef, .undef, .undef, .undef, .undef, .undef, .undef, .undef, .undef, .undef, .undef, .undef, .undef, .undef, .undef, .undef, .undef, .undef, .undef, .undef, .undef, .undef, .undef, .undef, .undef, .undef, .undef, .undef, .undef, .undef, .undef, .undef, .undef, .undef, .undef, .undef, .undef, .undef, .undef, .undef, .undef, .undef, .undef, .undef, .undef, .undef, .undef, .undef, .undef, .undef, .undef, .undef, .undef, .undef, .undef, .undef, .undef, .undef, .undef, .undef, .undef, .undef, .undef, .undef, .undef, .undef, .undef, .undef, .undef, .undef, .undef, .undef, .undef, .undef, .undef, .undef, .undef, .undef, .undef, .undef, .undef, .undef, .undef, .undef, .undef, .undef], []⟩
noncomputable def jV {R:Type} (K:Ex→St→Option R) (q0:Int) (q1:ak) (q2:Bool) (q3:Int):Option R:=K (.ret) ⟨[.undef, .undef, .undef, .undef, .undef, .undef, .int .u64 q0, .Em 184 .i64 1, .undef, .str q1, .undef, .undef, .bool q2, .int .u64 q3, .undef, .undef, .undef, .undef, .undef, .undef, .undef, .undef, .undef, .undef, .undef, .undef, .undef, .undef, .undef, .undef, .undef, .undef, .undef, .undef, .undef, .undef, .undef, .undef, .undef, .undef, .undef, .undef, .undef, .undef, .undef, .undef, .undef, .undef, .undef, .undef, .undef, .undef, .undef, .undef, .undef, .undef, .undef, .undef, .undef, .undef, .undef, .undef, .undef, .undef, .undef, .undef, .undef, .undef, .undef, .undef, .undef, .undef, .undef, .undef, .undef, .undef, .undef, .undef, .undef, .undef, .undef, .undef, .undef, .undef, .undef, .undef, .undef, .undef, .undef, .undef, .undef, .undef, .undef, .undef, .undef, .undef, .undef, .undef, .undef, .undef, .undef, .undef, .undef, .undef, .undef, .undef, .undef, .undef, .undef, .undef, .undef, .undef, .undef, .undef, .undef, .undef, .undef, .undef, .undef, .undef, .undef, .undef, .undef, .undef, .undef, .undef, .undef, .undef, .undef, .undef, .undef, .undef, .undef, .undef, .undef, .undef, .undef, .undef, .undef, .undef, .undef, .undef, .undef, .undef, .undef, .undef, .undef, .undef, .undef, .undef, .undef, .undef, .undef, .undef, .undef, .undef, .undef, .undef, .undef, .undef, .undef, .undef, .undef, .undef, .undef, .undef, .undef, .undef, .undef, .undef, .undef, .undef], []⟩
noncomputable def jW {R:Type} (K:Ex→St→Option R) (q0:Int) (q1:ak) (q2:Bool):Option R:=K (.ret) ⟨[.undef, .undef, .undef, .undef, .undef, .undef, .int .u64 q0, .Em 184 .i64 1, .undef, .str q1, .undef, .undef, .bool q2, .undef, .undef, .undef, .undef, .undef, .undef, .undef, .undef, .undef, .undef, .undef, .undef, .undef, .undef, .undef, .undef, .undef, .undef, .undef, .undef, .undef, .undef, .undef, .undef, .undef, .undef, .undef, .undef, .undef, .undef, .undef, .undef, .undef, .undef, .undef, .undef, .undef, .undef, .undef, .undef, .undef, .undef, .undef, .undef, .undef, .undef, .undef, .undef, .undef, .undef, .undef, .undef, .undef, .undef, .undef, .undef, .undef, .undef, .undef, .undef, .undef, .undef, .undef, .undef, .undef, .undef, .undef, .undef, .undef, .undef, .undef, .undef, .undef, .undef, .undef, .undef, .undef, .undef, .undef, .undef, .undef, .undef, .undef, .undef, .undef, .undef, .undef, .undef, .undef, .undef, .undef, .undef, .undef, .undef, .undef, .undef, .undef, .undef, .undef, .undef, .undef, .undef, .undef, .undef, .undef, .undef, .undef, .undef, .undef, .undef, .undef, .undef, .undef, .undef, .undef, .undef, .undef, .undef, .undef, .undef, .undef, .undef, .undef, .undef, .undef, .undef, .undef, .undef, .undef, .undef, .undef, .undef, .undef, .undef, .undef, .undef, .undef, .undef, .undef, .undef, .undef, .undef, .undef, .undef, .undef, .undef, .undef, .undef, .undef, .undef, .undef, .undef, .undef, .undef, .undef, .undef, .undef, .undef, .undef], []⟩
noncomputable def kH {R:Type} (internal_strconv_lower:cf R) (K:Ex→St→Option R) (rc:cV→Option R) (d:cV):Option R:=n7 internal_strconv_lower (fun z0 z1 z2 z3 z4 z5 z6 z7 z8 z9 OY=>rc (z0,z1,z2,z3,z4,z5,z6,z7,z8,z9,OY)) d.1 d.2.1 d.2.2.1 d.2.2.2.1 d.2.2.2.2.1 d.2.2.2.2.2.1 d.2.2.2.2.2.2.1 d.2.2.2.2.2.2.2.1 d.2.2.2.2.2.2.2.2.1 d.2.2.2.2.2.2.2.2.2.1 d.2.2.2.2.2.2.2.2.2.2 (jT K) (jU K) (jV K) (jW K)
noncomputable def dY {R:Type} (K:Ex→St→Option R) (n:Nat) (d:cV):Option R:=aV n d.1 d.2.1 d.2.2.1 d.2.2.2.1 d.2.2.2.2.1 d.2.2.2.2.2.1 d.2.2.2.2.2.2.1 d.2.2.2.2.2.2.2.1 d.2.2.2.2.2.2.2.2.1 d.2.2.2.2.2.2.2.2.2.1 d.2.2.2.2.2.2.2.2.2.2 (jT K) (jU K) (jV K) (jW K)
abbrev cW:List bJ := [.leaf (.undef), .leaf (.int .i64), .leaf (.undef), .leaf (.undef), .leaf (.undef), .leaf (.undef), .leaf (.undef), .leaf (.undef), .leaf (.bool), .leaf (.str), .leaf (.int .u64), .leaf (.int .u64), .leaf (.bool), .leaf (.int .u64), .leaf (.undef), .leaf (.undef), .leaf (.undef), .leaf (.undef), .leaf (.undef), .leaf (.undef), .leaf (.undef), .leaf (.undef), .leaf (.undef), .leaf (.undef), .leaf (.undef), .leaf (.undef), .leaf (.undef), .leaf (.undef), .leaf (.undef), .leaf (.undef), .leaf (.undef), .leaf (.undef), .leaf (.undef), .leaf (.undef), .leaf (.undef), .leaf (.undef), .leaf (.undef), .leaf (.undef), .leaf (.undef), .leaf (.undef), .leaf (.undef), .leaf (.undef), .leaf (.undef), .leaf (.undef), .leaf (.undef), .leaf (.undef), .leaf (.undef), .leaf (.undef), .leaf (.undef), .leaf (.undef), .leaf (.undef), .leaf (.undef), .leaf (.undef), .leaf (.undef), .leaf (.undef), .leaf (.undef), .leaf (.undef), .leaf (.undef), .leaf (.undef), .leaf (.undef), .leaf (.undef), .leaf (.undef), .leaf (.undef), .leaf (.undef), .leaf (.undef), .leaf (.undef), .leaf (.undef), .leaf (.undef), .leaf (.undef), .leaf (.undef), .leaf (.undef), .leaf (.undef), .leaf (.undef), .leaf (.undef), .leaf (.undef), .leaf (.undef), .leaf (.undef), .leaf (.undef), .leaf (.undef), .leaf (.undef), .leaf (.undef), .leaf (.undef), .leaf (.undef), .leaf (.undef), .leaf (.undef), .leaf (.undef), .leaf (.undef), .leaf (.undef), .leaf (.undef), .leaf (.undef), .leaf (.undef), .leaf (.undef), .leaf (.undef), .leaf (.undef), .leaf (.undef), .leaf (.undef), .leaf (.undef), .leaf (.undef), .leaf (.undef), .leaf (.row 0), .leaf (.int .i64), .leaf (.int .i64), .leaf (.undef), .leaf (.undef), .leaf (.undef), .leaf (.undef), .leaf (.undef), .leaf (.undef), .leaf (.undef), .leaf (.undef), .leaf (.undef), .leaf (.undef), .leaf (.undef), .leaf (.undef), .leaf (.undef), .leaf (.undef), .leaf (.undef), .leaf (.undef), .leaf (.undef), .leaf (.undef), .leaf (.undef), .leaf (.undef), .leaf (.undef), .leaf (.undef), .leaf (.undef), .leaf (.undef), .leaf (.undef), .leaf (.undef), .leaf (.undef), .leaf (.undef), .leaf (.undef), .leaf (.undef), .leaf (.undef), .leaf (.undef), .leaf (.undef), .leaf (.undef), .leaf (.undef), .leaf (.undef), .leaf (.undef), .leaf (.undef), .leaf (.undef), .leaf (.undef), .leaf (.undef), .leaf (.undef), .leaf (.undef), .leaf (.undef), .leaf (.undef), .leaf (.undef), .leaf (.undef), .leaf (.undef), .leaf (.undef), .leaf (.undef), .leaf (.undef), .leaf (.undef), .leaf (.undef), .leaf (.undef), .leaf (.undef), .leaf (.undef), .leaf (.undef), .leaf (.undef), .leaf (.undef), .leaf (.undef), .leaf (.undef), .leaf (.undef), .leaf (.undef), .leaf (.undef), .leaf (.undef), .leaf (.undef), .leaf (.undef), .leaf (.undef), .leaf (.undef), .leaf (.undef)]
abbrev cX:List aF := [.row (.int .u8)]
noncomputable def kI (x:bJ.au cW) (y:aF.au cX):Nat:=(Int.natAbs x.2.1+List.length x.2.2.2.2.2.2.2.2.2.1+Int.natAbs x.2.2.2.2.2.2.2.2.2.2.1+Int.natAbs x.2.2.2.2.2.2.2.2.2.2.2.1+Int.natAbs x.2.2.2.2.2.2.2.2.2.2.2.2.2.1+Int.natAbs x.2.2.2.2.2.2.2.2.2.2.2.2.2.2.2.2.2.2.2.2.2.2.2.2.2.2.2.2.2.2.2.2.2.2.2.2.2.2.2.2.2.2.2.2.2.2.2.2.2.2.2.2.2.2.2.2.2.2.2.2.2.2.2.2.2.2.2.2.2.2.2.2.2.2.2.2.2.2.2.2.2.2.2.2.2.2.2.2.2.2.2.2.2.2.2.2.2.2.2.2.1+Int.natAbs x.2.2.2.2.2.2.2.2.2.2.2.2.2.2.2.2.2.2.2.2.2.2.2.2.2.2.2.2.2.2.2.2.2.2.2.2.2.2.2.2.2.2.2.2.2.2.2.2.2.2.2.2.2.2.2.2.2.2.2.2.2.2.2.2.2.2.2.2.2.2.2.2.2.2.2.2.2.2.2.2.2.2.2.2.2.2.2.2.2.2.2.2.2.2.2.2.2.2.2.2.2.1+List.length y.1+64)
noncomputable def kJ (x:bJ.au cW) (y:aF.au cX):cV:=(x.2.1,x.2.2.2.2.2.2.2.2.1,x.2.2.2.2.2.2.2.2.2.1,x.2.2.2.2.2.2.2.2.2.2.1,x.2.2.2.2.2.2.2.2.2.2.2.1,x.2.2.2.2.2.2.2.2.2.2.2.2.1,x.2.2.2.2.2.2.2.2.2.2.2.2.2.1,x.2.2.2.2.2.2.2.2.2.2.2.2.2.2.2.2.2.2.2.2.2.2.2.2.2.2.2.2.2.2.2.2.2.2.2.2.2.2.2.2.2.2.2.2.2.2.2.2.2.2.2.2.2.2.2.2.2.2.2.2.2.2.2.2.2.2.2.2.2.2.2.2.2.2.2.2.2.2.2.2.2.2.2.2.2.2.2.2.2.2.2.2.2.2.2.2.2.2.2.1,x.2.2.2.2.2.2.2.2.2.2.2.2.2.2.2.2.2.2.2.2.2.2.2.2.2.2.2.2.2.2.2.2.2.2.2.2.2.2.2.2.2.2.2.2.2.2.2.2.2.2.2.2.2.2.2.2.2.2.2.2.2.2.2.2.2.2.2.2.2.2.2.2.2.2.2.2.2.2.2.2.2.2.2.2.2.2.2.2.2.2.2.2.2.2.2.2.2.2.2.2.1,x.2.2.2.2.2.2.2.2.2.2.2.2.2.2.2.2.2.2.2.2.2.2.2.2.2.2.2.2.2.2.2.2.2.2.2.2.2.2.2.2.2.2.2.2.2.2.2.2.2.2.2.2.2.2.2.2.2.2.2.2.2.2.2.2.2.2.2.2.2.2.2.2.2.2.2.2.2.2.2.2.2.2.2.2.2.2.2.2.2.2.2.2.2.2.2.2.2.2.2.2.2.1,y.1)
noncomputable def jX {R:Type} (L:dT R):bJ.au cW→aF.au cX→(Ex→St→Option R)→Option R:=fun x y K=>L (kI x y) x.2.1 x.2.2.2.2.2.2.2.2.1 x.2.2.2.2.2.2.2.2.2.1 x.2.2.2.2.2.2.2.2.2.2.1 x.2.2.2.2.2.2.2.2.2.2.2.1 x.2.2.2.2.2.2.2.2.2.2.2.2.1 x.2.2.2.2.2.2.2.2.2.2.2.2.2.1 x.2.2.2.2.2.2.2.2.2.2.2.2.2.2.2.2.2.2.2.2.2.2.2.2.2.2.2.2.2.2.2.2.2.2.2.2.2.2.2.2.2.2.2.2.2.2.2.2.2.2.2.2.2.2.2.2.2.2.2.2.2.2.2.2.2.2.2.2.2.2.2.2.2.2.2.2.2.2.2.2.2.2.2.2.2.2.2.2.2.2.2.2.2.2.2.2.2.2.2.1 x.2.2.2.2.2.2.2.2.2.2.2.2.2.2.2.2.2.2.2.2.2.2.2.2.2.2.2.2.2.2.2.2.2.2.2.2.2.2.2.2.2.2.2.2.2.2.2.2.2.2.2.2.2.2.2.2.2.2.2.2.2.2.2.2.2.2.2.2.2.2.2.2.2.2.2.2.2.2.2.2.2.2.2.2.2.2.2.2.2.2.2.2.2.2.2.2.2.2.2.2.1 x.2.2.2.2.2.2.2.2.2.2.2.2.2.2.2.2.2.2.2.2.2.2.2.2.2.2.2.2.2.2.2.2.2.2.2.2.2.2.2.2.2.2.2.2.2.2.2.2.2.2.2.2.2.2.2.2.2.2.2.2.2.2.2.2.2.2.2.2.2.2.2.2.2.2.2.2.2.2.2.2.2.2.2.2.2.2.2.2.2.2.2.2.2.2.2.2.2.2.2.2.2.1 y.1 (jT K) (jU K) (jV K) (jW K)
noncomputable def gE (R:Type) (aV:dT R):Nat→Option (Hint × cd R):=fun i=>match i with
  | 36=>some (gJ,(gq cW cX (jX aV) qg))
  | _=>none

theorem tN {R:Type} (internal_strconv_lower:cf R) (bn:ek R) (aV:dT R) (K:Ex→St→Option R) (rc:St→Option R) (d:cV):roundOf tt (eA R internal_strconv_lower bn) (gE R aV) 0 ((aO (aI Tryz.f169)).getD 0 .skip) gJ (gl d) rc K=kH internal_strconv_lower K (fun d=>rc (gl d)) d:=by kernel_rfl
theorem sw {R:Type} (K:Ex→St→Option R) (n:Nat) (d:cV):dY K (n+1) d=kH internal_strconv_lower K (dY K n) d:=by kernel_rfl
theorem sA {R:Type} (K:Ex→St→Option R) (d:cV):dY K 0 d=none:=by kernel_rfl
theorem tO (x:bJ.au cW) (y:aF.au cX):(⟨bJ.cL cW x,aF.cL cX y⟩:St)=gl (kJ x y):=by kernel_rfl
theorem tP {R:Type} (x:bJ.au cW) (y:aF.au cX) (K:Ex→St→Option R):jX (aV) x y K=dY K (kI x y) (kJ x y):=by kernel_rfl
theorem vu {R:Type} (other:cd R) (ho:ph tt (eA R internal_strconv_lower bn) (gE R aV) 0 ((aO (aI Tryz.f169)).getD 0 .skip) gJ other):ph tt (eA R internal_strconv_lower bn) (gE R aV) 0 ((aO (aI Tryz.f169)).getD 0 .skip) gJ (gq cW cX (jX (aV)) other) :=
  gQ (A:=dY) ho (kO gl (kH internal_strconv_lower) (dY) (sA) (tN internal_strconv_lower bn aV) (sw)) kI kJ tO (tP)

noncomputable def qL {R:Type} (internal_strconv_lower:cf R) (bn:ek R) (aV:dT R) (x1:ak) (x2:Int) (x3:Int) (k0:Int→Option R) (k1:Int→Option R) (k2:Int→Option R) (k3:Int→Option R) (k4:Int→Option R):Option R :=
  bif (x1==([]:ak))then (k0 0)else (let j63:=fun (Zu:ak) (z16:Int)=>let j62:=fun (z18:Int)=>let j61:=fun (Pg:Int)=>cR (decide ((0:Int)≤(IntKind.u64.wrap z18))) (aV (Int.natAbs z16+List.length x1+Int.natAbs Pg+Int.natAbs (IntKind.u64.wrap ((IntKind.u64.wrap (1*2 ^ (min ((IntKind.u64.wrap z18).toNat) IntKind.u64.bits))) - 1))+Int.natAbs 0+Int.natAbs (Zu.length:Int)+Int.natAbs 0+List.length (Be Zu)+64) z16 (x2==0) x1 Pg (IntKind.u64.wrap ((IntKind.u64.wrap (1*2 ^ (min ((IntKind.u64.wrap z18).toNat) IntKind.u64.bits))) - 1)) false 0 Zu.length (Zu.length:Int) 0 (Be Zu) (fun Zs Zv MW=>bif Zv then (bn Zs (fun Sk=>bif (!Sk)then (k0 0)else (k4 MW)))else (k4 MW)) (fun Vt XE XF XG=>k0 Vt) (fun Vu XH XI Zw=>k3 Vu) (fun UQ UR US=>k3 UQ)); bif (z16==10)then (j61 1844674407370955162)else (bif (z16==16)then (j61 1152921504606846976)else (cR (!decide ((IntKind.u64.wrap z16)=0)) (j61 (IntKind.u64.wrap ((IntKind.u64.wrap (Int.tdiv 18446744073709551615 (IntKind.u64.wrap z16)))+1))))); bif (x3==0)then (j62 64)else (bif (decide (x3<(0:Int)))then (k2 0)else (bif (decide (x3>(64:Int)))then (k2 0)else (j62 x3))); let j14:=fun (z4:Bool)=>bif z4 then (j63 x1 x2)else (bif (x2==0)then (cR (decide ((0:Int)<x1.length)) (bif (((x1.getD 0 0).toNat:Int)==48)then (let j13:=fun (z6:Bool)=>bif z6 then (cR (decide ((0:Int)≤(x1.length:Int))&&decide ((x1.length:Int)≤x1.length)) (cR (decide ((2:Int)≤(x1.length:Int))) (j63 ((x1.drop 2).take ((x1.length:Int).toNat - 2)) 2)))else (let j12:=fun (z8:Bool)=>bif z8 then (cR (decide ((0:Int)≤(x1.length:Int))&&decide ((x1.length:Int)≤x1.length)) (cR (decide ((2:Int)≤(x1.length:Int))) (j63 ((x1.drop 2).take ((x1.length:Int).toNat - 2)) 8)))else (let j11:=fun (OY:Bool)=>bif OY then (cR (decide ((0:Int)≤(x1.length:Int))&&decide ((x1.length:Int)≤x1.length)) (cR (decide ((2:Int)≤(x1.length:Int))) (j63 ((x1.drop 2).take ((x1.length:Int).toNat - 2)) 16)))else (cR (decide ((0:Int)≤(x1.length:Int))&&decide ((x1.length:Int)≤x1.length)) (cR (decide ((1:Int)≤(x1.length:Int))) (j63 ((x1.drop 1).take ((x1.length:Int).toNat - 1)) 8))); bif (decide ((x1.length:Int)≥(3:Int)))then (cR (decide ((1:Int)<x1.length)) (internal_strconv_lower ((x1.getD 1 0).toNat:Int) (fun y9=>j11 (y9==120))))else (j11 false)); bif (decide ((x1.length:Int)≥(3:Int)))then (cR (decide ((1:Int)<x1.length)) (internal_strconv_lower ((x1.getD 1 0).toNat:Int) (fun y7=>j12 (y7==111))))else (j12 false)); bif (decide ((x1.length:Int)≥(3:Int)))then (cR (decide ((1:Int)<x1.length)) (internal_strconv_lower ((x1.getD 1 0).toNat:Int) (fun y5=>j13 (y5==98))))else (j13 false))else (j63 x1 10)))else (k1 0)); bif (decide ((2:Int)≤x2))then (j14 (decide (x2≤(36:Int))))else (j14 false))
noncomputable def cy {R:Type}:gn R:=fun x1 x2 x3 k0 k1 k2 k3 k4=>qL internal_strconv_lower bn aV x1 x2 x3 k0 k1 k2 k3 k4
theorem yZ {R:Type} (internal_strconv_lower:cf R) (bn:ek R) (aV:dT R) (x1:ak) (x2:Int) (x3:Int) (k:V→ay→Option R):iq tt (eA R internal_strconv_lower bn) (gE R aV) false Tryz.f169 (aI Tryz.f169) [.str x1, .int .i64 x2, .int .i64 x3] [] k =
    qL internal_strconv_lower bn aV x1 x2 x3 (fun q0=>k (.tuple [.int .u64 q0, .Em 184 .i64 2]) []) (fun q0=>k (.tuple [.int .u64 q0, .Em 184 .i64 3]) []) (fun q0=>k (.tuple [.int .u64 q0, .Em 184 .i64 4]) []) (fun q0=>k (.tuple [.int .u64 q0, .Em 184 .i64 1]) []) (fun q0=>k (.tuple [.int .u64 q0, .cJ]) []):=by kernel_rfl
theorem wV (R:Type):∀a∈aO (aI Tryz.f169),cG tt (eA R internal_strconv_lower bn) (gE R aV) 0 a:=by
  refine bB 1 (by kernel_rfl) fun i hi => ?_
  match i,hi with
  | 0,_=>exact fT (by kernel_rfl) (vu _ jA)
  | n+1,hi=>omega
theorem xo (R:Type) (other:ax.Spec R) (ho:ax.Spec.Ok Tryz.prog 169 other):ax.Spec.Ok Tryz.prog 169 (az jR jS (qa cy) other) :=
  bm ho (bc TT mixed (yd R) (keep:=false) rfl rfl rfl rfl 0 (wV R)) fun (x:bJ.au jR) (y:aF.au jS) k=>yZ internal_strconv_lower bn aV x.1 x.2.1 x.2.2.1 k

end Go.Proofs.YtmlkkgfenfdndaaGreatDoor

/-
  Functions of the program as pure Lean functions, and the ties; printed by wip/tools/emit.py.
-/
set_option maxRecDepth 100000
namespace Go.Proofs.YtmlkkgfenfdndaaGreatDoor
open Go Go.ax

/-! ### strconv.ParseUint -/
abbrev my (R:Type):Type:=ak→Int→Int→(Int→Option R)→(Int→Option R)→Option R
abbrev pI:List bJ := [.leaf (.str), .leaf (.int .i64), .leaf (.int .i64)]
abbrev pJ:List aF := []
noncomputable def za {R:Type} (fn:my R):bJ.au pI→aF.au pJ→(V→ay→Option R)→Option R:=fun x y k=>fn x.1 x.2.1 x.2.2.1 (fun q0=>k (.tuple [.int .u64 q0, .iface]) []) (fun q0=>k (.tuple [.int .u64 q0, .cJ]) [])
noncomputable def pK (R:Type) (cy:gn R):Env R:=fun i=>match i with
  | 136=>some (true,(toErr_S R 184))
  | 169=>some (true,(az jR jS (qa cy) aZ))
  | _=>none
theorem Ec (R:Type):po Tryz.prog (pK R cy):=by
  intro i b sp h
  unfold pK at h
  split at h
  · cases h; exact ⟨(toErr_ok),fun h=>nomatch h⟩
  · cases h; exact ⟨(xo R _ (aM _)),fun h=>nomatch h⟩
  · cases h

noncomputable def zW (R:Type):Nat→Option (Hint × cd R):=fun i=>match i with
  | _=>none

noncomputable def zX {R:Type} (cy:gn R) (x1:ak) (x2:Int) (x3:Int) (k0:Int→Option R) (k1:Int→Option R):Option R :=
  cy x1 x2 x3 (fun y4=>cR (Nat.beq 184 184&&(2==2||2==1)) (cR (decide (x1.length≤281474976710656)) (k0 y4))) (fun y5=>cR (Nat.beq 184 184&&(3==2||3==1)) (cR (decide (x1.length≤281474976710656)) (k0 y5))) (fun y6=>cR (Nat.beq 184 184&&(4==2||4==1)) (cR (decide (x1.length≤281474976710656)) (k0 y6))) (fun y7=>cR (Nat.beq 184 184&&(1==2||1==1)) (cR (decide (x1.length≤281474976710656)) (k0 y7))) (fun y8=>k1 y8)
noncomputable def eT {R:Type}:my R:=fun x1 x2 x3 k0 k1=>zX cy x1 x2 x3 k0 k1
theorem EZ {R:Type} (cy:gn R) (x1:ak) (x2:Int) (x3:Int) (k:V→ay→Option R):iq tt (pK R cy) (zW R) false Tryz.f172 (aI Tryz.f172) [.str x1, .int .i64 x2, .int .i64 x3] [] k =
    zX cy x1 x2 x3 (fun q0=>k (.tuple [.int .u64 q0, .iface]) []) (fun q0=>k (.tuple [.int .u64 q0, .cJ]) []):=by kernel_rfl
theorem CW (R:Type):∀a∈aO (aI Tryz.f172),cG tt (pK R cy) (zW R) 0 a:=by
  refine bB 0 (by kernel_rfl) fun i hi => ?_
  omega
theorem DE (R:Type) (other:ax.Spec R) (ho:ax.Spec.Ok Tryz.prog 172 other):ax.Spec.Ok Tryz.prog 172 (az pI pJ (za eT) other) :=
  bm ho (bc TT mixed (Ec R) (keep:=false) rfl rfl rfl rfl 0 (CW R)) fun (x:bJ.au pI) (y:aF.au pJ) k=>EZ cy x.1 x.2.1 x.2.2.1 k

/-! ### (*humpyard/quote.reader).unit -/
abbrev je (R:Type):Type:=ak→(Int→ak→Option R)→Option R
abbrev lZ:List bJ := [.leaf (.ptr 0 0)]
abbrev l0:List aF := [.cells [.str]]
noncomputable def ti {R:Type} (fn:je R):bJ.au lZ→aF.au l0→(V→ay→Option R)→Option R:=fun x y k=>fn y.1.1 (fun q0 q1=>k (.int .i32 q0) [.cells [.str q1]])
noncomputable def l7 (R:Type) (eT:my R):Env R:=fun i=>match i with
  | 172=>some (true,(az pI pJ (za eT) aZ))
  | 173=>some (true,(Lw R))
  | _=>none
theorem Bk (R:Type):po Tryz.prog (l7 R eT):=by
  intro i b sp h
  unfold l7 at h
  split at h
  · cases h; exact ⟨(DE R _ (aM _)),fun h=>nomatch h⟩
  · cases h; exact ⟨(UJ),fun h=>nomatch h⟩
  · cases h

noncomputable def uw (R:Type):Nat→Option (Hint × cd R):=fun i=>match i with
  | _=>none

noncomputable def ux {R:Type} (eT:my R) (x1:ak) (k0:Int→ak→Option R):Option R :=
  bif (decide ((x1.length:Int)<(4:Int)))then (k0 (-1) x1)else (cR (decide ((4:Int)≤x1.length)) (eT ((x1.drop 0).take (4 - 0)) 16 16 (fun y2=>k0 (-1) x1) (fun y3=>cR (wu ((x1.drop 0).take (4 - 0))&&wu ([43,45,95]:ak)&&decide (((x1.drop 0).take (4 - 0)).length<4294967281)&&decide (([43,45,95]:ak).length<4294967281)) (bif (Xg ((x1.drop 0).take (4 - 0)) ([43,45,95]:ak))then (k0 (-1) x1)else (cR (decide ((0:Int)≤(x1.length:Int))&&decide ((x1.length:Int)≤x1.length)) (cR (decide ((4:Int)≤(x1.length:Int))) (k0 (IntKind.i32.wrap y3) ((x1.drop 4).take ((x1.length:Int).toNat - 4)))))))))
noncomputable def cS {R:Type}:je R:=fun x1 k0=>ux eT x1 k0
theorem BJ {R:Type} (eT:my R) (x1:ak) (k:V→ay→Option R):iq tt (l7 R eT) (uw R) false Tryz.f157 (aI Tryz.f157) [.ptr 0 0] [.cells [.str x1]] k =
    ux eT x1 (fun q0 q1=>k (.int .i32 q0) [.cells [.str q1]]):=by kernel_rfl
theorem zB (R:Type):∀a∈aO (aI Tryz.f157),cG tt (l7 R eT) (uw R) 1 a:=by
  refine bB 0 (by kernel_rfl) fun i hi => ?_
  omega
theorem Az (R:Type) (other:ax.Spec R) (ho:ax.Spec.Ok Tryz.prog 157 other):ax.Spec.Ok Tryz.prog 157 (az lZ l0 (ti cS) other) :=
  bm ho (bc TT mixed (Bk R) (keep:=false) rfl rfl rfl rfl 1 (zB R)) fun (x:bJ.au lZ) (y:aF.au l0) k=>BJ eT y.1.1 k

/-! ### (*humpyard/quote.reader).long -/
abbrev jf (R:Type):Type:=ak→(Int→ak→Option R)→Option R
abbrev l8:List bJ := [.leaf (.ptr 0 0)]
abbrev l9:List aF := [.cells [.str]]
noncomputable def tj {R:Type} (fn:jf R):bJ.au l8→aF.au l9→(V→ay→Option R)→Option R:=fun x y k=>fn y.1.1 (fun q0 q1=>k (.int .i32 q0) [.cells [.str q1]])
noncomputable def mc (R:Type) (aJ:cY R) (cS:je R):Env R:=fun i=>match i with
  | 107=>some (false,(az jG jH (oa aJ) aZ))
  | 157=>some (false,(az lZ l0 (ti cS) aZ))
  | _=>none
theorem Bl (R:Type):po Tryz.prog (mc R aJ cS):=by
  intro i b sp h
  unfold mc at h
  split at h
  · cases h; exact ⟨(rK R _ (aM _)),fun _ h=>nomatch h⟩
  · cases h; exact ⟨(Az R _ (aM _)),fun _ h=>nomatch h⟩
  · cases h

noncomputable def uy (R:Type):Nat→Option (Hint × cd R):=fun i=>match i with
  | _=>none

noncomputable def uz {R:Type} (aJ:cY R) (cS:je R) (x1:ak) (k0:Int→ak→Option R):Option R :=
  cS x1 (fun y2 y3=>bif (decide (y2<(55296:Int)))then (k0 y2 y3)else (bif (decide (y2≥(57344:Int)))then (k0 y2 y3)else (bif (decide (y2≥(56320:Int)))then (k0 (-1) y3)else (aJ ([92,117]:ak) y3 (fun y5 y6=>bif (!y5)then (k0 (-1) y6)else (cS y6 (fun y9 B5=>bif (decide (y9<(56320:Int)))then (k0 (-1) B5)else (bif (decide (y9≥(57344:Int)))then (k0 (-1) B5)else (k0 (IntKind.i32.wrap ((IntKind.i32.wrap ((IntKind.i32.wrap (65536+(IntKind.i32.wrap ((IntKind.i32.wrap (y2 - 55296))*2 ^ (min 10 IntKind.i32.bits)))))+y9)) - 56320)) B5)))))))))
noncomputable def dk {R:Type}:jf R:=fun x1 k0=>uz aJ cS x1 k0
theorem BK {R:Type} (aJ:cY R) (cS:je R) (x1:ak) (k:V→ay→Option R):iq tt (mc R aJ cS) (uy R) false Tryz.f138 (aI Tryz.f138) [.ptr 0 0] [.cells [.str x1]] k =
    uz aJ cS x1 (fun q0 q1=>k (.int .i32 q0) [.cells [.str q1]]):=by kernel_rfl
theorem zC (R:Type):∀a∈aO (aI Tryz.f138),cG tt (mc R aJ cS) (uy R) 1 a:=by
  refine bB 0 (by kernel_rfl) fun i hi => ?_
  omega
theorem AA (R:Type) (other:ax.Spec R) (ho:ax.Spec.Ok Tryz.prog 138 other):ax.Spec.Ok Tryz.prog 138 (az l8 l9 (tj dk) other) :=
  bm ho (bc TT mixed (Bl R) (keep:=false) rfl rfl rfl rfl 1 (zC R)) fun (x:bJ.au l8) (y:aF.au l9) k=>BK aJ cS y.1.1 k

/-! ### (*humpyard/quote.reader).escaped -/
abbrev eB (R:Type):Type:=ak→(Int→ak→Option R)→Option R
abbrev ku:List bJ := [.leaf (.ptr 0 0)]
abbrev kv:List aF := [.cells [.str]]
noncomputable def qM {R:Type} (fn:eB R):bJ.au ku→aF.au kv→(V→ay→Option R)→Option R:=fun x y k=>fn y.1.1 (fun q0 q1=>k (.int .i32 q0) [.cells [.str q1]])
noncomputable def kz (R:Type) (dk:jf R):Env R:=fun i=>match i with
  | 138=>some (false,(az l8 l9 (tj dk) aZ))
  | _=>none
theorem zc (R:Type):po Tryz.prog (kz R dk):=by
  intro i b sp h
  unfold kz at h
  split at h
  · cases h; exact ⟨(AA R _ (aM _)),fun _ h=>nomatch h⟩
  · cases h

noncomputable def rN (R:Type):Nat→Option (Hint × cd R):=fun i=>match i with
  | _=>none

noncomputable def rO {R:Type} (dk:jf R) (x1:ak) (k0:Int→ak→Option R):Option R :=
  bif (x1==([]:ak))then (k0 (-1) x1)else (cR (decide ((0:Int)<x1.length)) (cR (decide ((0:Int)≤(x1.length:Int))&&decide ((x1.length:Int)≤x1.length)) (cR (decide ((1:Int)≤(x1.length:Int))) (let j5:=fun (z2:Bool)=>bif z2 then (k0 (IntKind.i32.wrap ((x1.getD 0 0).toNat:Int)) ((x1.drop 1).take ((x1.length:Int).toNat - 1)))else (bif (((x1.getD 0 0).toNat:Int)==98)then (k0 8 ((x1.drop 1).take ((x1.length:Int).toNat - 1)))else (bif (((x1.getD 0 0).toNat:Int)==102)then (k0 12 ((x1.drop 1).take ((x1.length:Int).toNat - 1)))else (bif (((x1.getD 0 0).toNat:Int)==110)then (k0 10 ((x1.drop 1).take ((x1.length:Int).toNat - 1)))else (bif (((x1.getD 0 0).toNat:Int)==114)then (k0 13 ((x1.drop 1).take ((x1.length:Int).toNat - 1)))else (bif (((x1.getD 0 0).toNat:Int)==116)then (k0 9 ((x1.drop 1).take ((x1.length:Int).toNat - 1)))else (bif (((x1.getD 0 0).toNat:Int)==117)then (dk ((x1.drop 1).take ((x1.length:Int).toNat - 1)) (fun y3 y4=>k0 y3 y4))else (k0 (-1) ((x1.drop 1).take ((x1.length:Int).toNat - 1))))))))); bif (((x1.getD 0 0).toNat:Int)==34)then (j5 (((x1.getD 0 0).toNat:Int)==34))else (bif (((x1.getD 0 0).toNat:Int)==92)then (j5 (((x1.getD 0 0).toNat:Int)==92))else (j5 (((x1.getD 0 0).toNat:Int)==47)))))))
noncomputable def bj {R:Type}:eB R:=fun x1 k0=>rO dk x1 k0
theorem zD {R:Type} (dk:jf R) (x1:ak) (k:V→ay→Option R):iq tt (kz R dk) (rN R) false Tryz.f109 (aI Tryz.f109) [.ptr 0 0] [.cells [.str x1]] k =
    rO dk x1 (fun q0 q1=>k (.int .i32 q0) [.cells [.str q1]]):=by kernel_rfl
theorem xp (R:Type):∀a∈aO (aI Tryz.f109),cG tt (kz R dk) (rN R) 1 a:=by
  refine bB 0 (by kernel_rfl) fun i hi => ?_
  omega
theorem ye (R:Type) (other:ax.Spec R) (ho:ax.Spec.Ok Tryz.prog 109 other):ax.Spec.Ok Tryz.prog 109 (az ku kv (qM bj) other) :=
  bm ho (bc TT mixed (zc R) (keep:=false) rfl rfl rfl rfl 1 (xp R)) fun (x:bJ.au ku) (y:aF.au kv) k=>zD dk y.1.1 k

/-! ### (*humpyard/quote.reader).plain -/
abbrev eW (R:Type):Type:=ak→(Int→ak→Option R)→Option R
abbrev lI:List bJ := [.leaf (.ptr 0 0)]
abbrev lJ:List aF := [.cells [.str]]
noncomputable def sB {R:Type} (fn:eW R):bJ.au lI→aF.au lJ→(V→ay→Option R)→Option R:=fun x y k=>fn y.1.1 (fun q0 q1=>k (.int .i32 q0) [.cells [.str q1]])
noncomputable def lK (R:Type):Env R:=fun i=>match i with
  | 130=>some (true,(Xh R))
  | _=>none
theorem AB (R:Type):po Tryz.prog (lK R):=by
  intro i b sp h
  unfold lK at h
  split at h
  · cases h; exact ⟨(dec_ok),fun h=>nomatch h⟩
  · cases h

noncomputable def tm (R:Type):Nat→Option (Hint × cd R):=fun i=>match i with
  | _=>none

noncomputable def tp {R:Type} (x1:ak) (k0:Int→ak→Option R):Option R :=
  let j3:=cR (decide ((0:Int)≤(x1.length:Int))&&decide ((x1.length:Int)≤x1.length)) (cR (decide ((0:Int)≤((pq x1).2:Int))&&decide (((pq x1).2:Int)≤(x1.length:Int))) (k0 ((pq x1).1:Int) ((x1.drop ((pq x1).2:Int).toNat).take ((x1.length:Int).toNat - ((pq x1).2:Int).toNat)))); bif (((pq x1).1:Int)==65533)then (bif (decide (((pq x1).2:Int)<(2:Int)))then (k0 (-1) x1)else (bif (decide (((pq x1).1:Int)<(32:Int)))then (k0 (-1) x1)else (j3)))else (bif (decide (((pq x1).1:Int)<(32:Int)))then (k0 (-1) x1)else (j3))
noncomputable def bu {R:Type}:eW R:=fun x1 k0=>tp x1 k0
theorem Bm {R:Type} (x1:ak) (k:V→ay→Option R):iq tt (lK R) (tm R) false Tryz.f108 (aI Tryz.f108) [.ptr 0 0] [.cells [.str x1]] k =
    tp x1 (fun q0 q1=>k (.int .i32 q0) [.cells [.str q1]]):=by kernel_rfl
theorem zd (R:Type):∀a∈aO (aI Tryz.f108),cG tt (lK R) (tm R) 1 a:=by
  refine bB 0 (by kernel_rfl) fun i hi => ?_
  omega
theorem zE (R:Type) (other:ax.Spec R) (ho:ax.Spec.Ok Tryz.prog 108 other):ax.Spec.Ok Tryz.prog 108 (az lI lJ (sB bu) other) :=
  bm ho (bc TT mixed (AB R) (keep:=false) rfl rfl rfl rfl 1 (zd R)) fun (x:bJ.au lI) (y:aF.au lJ) k=>Bm y.1.1 k

end Go.Proofs.YtmlkkgfenfdndaaGreatDoor

set_option maxRecDepth 100000
namespace Go.Proofs.YtmlkkgfenfdndaaGreatDoor
open Go Go.ax Go.Lib

def XJ (s:ak):Option (Nat × ak) :=
  if s = []then none else if (decodeL s).1=65533∧(decodeL s).2=1 then none else if (decodeL s).1<32 then none else some ((decodeL s).1,s.drop (decodeL s).2)

def hexv (b:UInt8):Option Nat :=
  let n:=b.toNat
  if 48≤n∧n≤57 then some (n - 48)else if 65≤n∧n≤70 then some (n - 55)else if 97≤n∧n≤102 then some (n - 87)else none
def hexN:ak→Nat→Option Nat
  | [],v=>some v
  | b::t,v=>match hexv b with|some d=>hexN t (16*v+d)|none=>none


end Go.Proofs.YtmlkkgfenfdndaaGreatDoor

/-
  Functions of the program as pure Lean functions, and the ties; printed by wip/tools/emit.py.
-/
set_option maxRecDepth 100000
namespace Go.Proofs.YtmlkkgfenfdndaaGreatDoor
open Go Go.ax

/-! ### humpyard/quote.Unquote -/
abbrev pU (R:Type):Type:=ak→(ak→Int→Bool→Option R)→Option R
abbrev uU:List bJ := [.leaf (.str)]
abbrev uV:List aF := []
noncomputable def CX {R:Type} (fn:pU R):bJ.au uU→aF.au uV→(V→ay→Option R)→Option R:=fun x y k=>fn x.1 (fun q0 q1 q2=>k (.tuple [.str q0, .int .i64 q1, .bool q2]) [])
abbrev j9 (R:Type):Type:=Nat→ak→ak→(List Int)→(ak→ak→(List Int)→Option R)→(ak→ak→Int→Bool→ak→(List Int)→Option R)→Option R
noncomputable def mS (R:Type) (ai:bF R) (aJ:cY R) (bu:eW R) (bj:eB R):Env R:=fun i=>match i with
  | 53=>some (false,(az fw fx (kG ai) aZ))
  | 39=>some (false,(Dp R))
  | 107=>some (false,(az jG jH (oa aJ) aZ))
  | 108=>some (false,(az lI lJ (sB bu) aZ))
  | 109=>some (false,(az ku kv (qM bj) aZ))
  | _=>none
theorem HW (R:Type):po Tryz.prog (mS R ai aJ bu bj):=by
  intro i b sp h
  unfold mS at h
  split at h
  · cases h; exact ⟨(nq R _ (aM _)),fun _ h=>nomatch h⟩
  · cases h; exact ⟨(Kt),fun _ _=>Fl⟩
  · cases h; exact ⟨(rK R _ (aM _)),fun _ h=>nomatch h⟩
  · cases h; exact ⟨(zE R _ (aM _)),fun _ h=>nomatch h⟩
  · cases h; exact ⟨(ye R _ (aM _)),fun _ h=>nomatch h⟩
  · cases h

noncomputable def zY {R:Type} (ai:bF R) (aJ:cY R) (bu:eW R) (bj:eB R) (gm:ak→ak→(List Int)→Option R) (x4:ak) (x5:ak) (x6:List Int) (e0:ak→ak→(List Int)→Option R) (e1:ak→ak→Int→Bool→ak→(List Int)→Option R):Option R :=
  aJ ([34]:ak) x5 (fun y7 y8=>bif (!y7)then (aJ ([92]:ak) y8 (fun y9 B5=>bif y9 then (bj B5 (fun B6 HM=>bif (decide (B6<(0:Int)))then (e1 x4 ([]:ak) 0 false HM x6)else (ai B6 x6 (fun Il GK=>gm x4 HM GK))))else (bu B5 (fun JG MR=>bif (decide (JG<(0:Int)))then (e1 x4 ([]:ak) 0 false MR x6)else (ai JG x6 (fun QY Mq=>gm x4 MR Mq))))))else (e0 x4 y8 x6))
noncomputable def cj {R:Type}:j9 R
  | 0,_,_,_,_,_=>none
  | n+1,mQ,mR,nI,e0,e1=>zY ai aJ bu bj (fun mQ mR nI=>cj n mQ mR nI e0 e1) mQ mR nI e0 e1
noncomputable def pL:Hint := { live := [0,5,6],own := [],rows := [],cells := [(1,1,(.int .u8),false)],drop := [],out := [0,2,3,4,5,6] }
abbrev gN:Type:=ak × ak × (List Int)
noncomputable def nV:gN→St:=fun d=>⟨[.str d.1, .undef, .undef, .undef, .undef, .ptr 0 0, .ptr 1 0, .undef, .undef, .undef, .undef, .undef, .undef, .undef, .undef, .undef, .undef, .undef, .undef, .undef, .undef, .undef, .undef, .undef, .undef, .undef, .undef, .undef, .undef, .undef, .undef, .undef, .undef, .undef, .undef, .undef, .undef, .undef, .undef], [.cells [.str d.2.1], .kq (.sl (.int .u8) d.2.2 (.own 2)), .tok]⟩
noncomputable def sC {R:Type} (K:Ex→St→Option R) (q0:ak) (q1:ak) (q2:List Int):Option R:=K (.exit 0) ⟨[.str q0, .undef, .undef, .undef, .undef, .ptr 0 0, .ptr 1 0, .undef, .undef, .undef, .undef, .undef, .undef, .undef, .undef, .undef, .undef, .undef, .undef, .undef, .undef, .undef, .undef, .undef, .undef, .undef, .undef, .undef, .undef, .undef, .undef, .undef, .undef, .undef, .undef, .undef, .undef, .undef, .undef], [.cells [.str q1], .kq (.sl (.int .u8) q2 (.own 2)), .tok]⟩
noncomputable def sD {R:Type} (K:Ex→St→Option R) (q0:ak) (q1:ak) (q2:Int) (q3:Bool) (q4:ak) (q5:List Int):Option R:=K (.ret) ⟨[.str q0, .undef, .str q1, .int .i64 q2, .bool q3, .ptr 0 0, .ptr 1 0, .undef, .undef, .undef, .undef, .undef, .undef, .undef, .undef, .undef, .undef, .undef, .undef, .undef, .undef, .undef, .undef, .undef, .undef, .undef, .undef, .undef, .undef, .undef, .undef, .undef, .undef, .undef, .undef, .undef, .undef, .undef, .undef], [.cells [.str q4], .kq (.sl (.int .u8) q5 (.own 2)), .tok]⟩
noncomputable def tQ {R:Type} (ai:bF R) (aJ:cY R) (bu:eW R) (bj:eB R) (K:Ex→St→Option R) (rc:gN→Option R) (d:gN):Option R:=zY ai aJ bu bj (fun z0 z1 z2=>rc (z0,z1,z2)) d.1 d.2.1 d.2.2 (sC K) (sD K)
noncomputable def lk {R:Type} (K:Ex→St→Option R) (n:Nat) (d:gN):Option R:=cj n d.1 d.2.1 d.2.2 (sC K) (sD K)
abbrev gO:List bJ := [.leaf (.str), .leaf (.undef), .leaf (.undef), .leaf (.undef), .leaf (.undef), .leaf (.ptr 0 0), .leaf (.ptr 1 0), .leaf (.undef), .leaf (.undef), .leaf (.undef), .leaf (.undef), .leaf (.undef), .leaf (.undef), .leaf (.undef), .leaf (.undef), .leaf (.undef), .leaf (.undef), .leaf (.undef), .leaf (.undef), .leaf (.undef), .leaf (.undef), .leaf (.undef), .leaf (.undef), .leaf (.undef), .leaf (.undef), .leaf (.undef), .leaf (.undef), .leaf (.undef), .leaf (.undef), .leaf (.undef), .leaf (.undef), .leaf (.undef), .leaf (.undef), .leaf (.undef), .leaf (.undef), .leaf (.undef), .leaf (.undef), .leaf (.undef), .leaf (.undef)]
abbrev gP:List aF := [.cells [.str], .kq (.Mp (.int .u8) 2), .tok]
noncomputable def tR (x:bJ.au gO) (y:aF.au gP):Nat:=(List.length x.1+List.length y.1.1+List.length y.2.1+64)
noncomputable def tS (x:bJ.au gO) (y:aF.au gP):gN:=(x.1,y.1.1,y.2.1)
noncomputable def sE {R:Type} (L:j9 R):bJ.au gO→aF.au gP→(Ex→St→Option R)→Option R:=fun x y K=>L (tR x y) x.1 y.1.1 y.2.1 (sC K) (sD K)
noncomputable def qN (R:Type) (cj:j9 R):Nat→Option (Hint × cd R):=fun i=>match i with
  | 5=>some (pL,(gq gO gP (sE cj) qg))
  | _=>none

theorem DF {R:Type} (ai:bF R) (aJ:cY R) (bu:eW R) (bj:eB R) (cj:j9 R) (K:Ex→St→Option R) (rc:St→Option R) (d:gN):roundOf tt (mS R ai aJ bu bj) (qN R cj) 0 ((aO (aI Tryz.f70)).getD 0 .skip) pL (nV d) rc K=tQ ai aJ bu bj K (fun d=>rc (nV d)) d:=by kernel_rfl
theorem Cm {R:Type} (K:Ex→St→Option R) (n:Nat) (d:gN):lk K (n+1) d=tQ ai aJ bu bj K (lk K n) d:=by kernel_rfl
theorem Cn {R:Type} (K:Ex→St→Option R) (d:gN):lk K 0 d=none:=by kernel_rfl
theorem DG (x:bJ.au gO) (y:aF.au gP):(⟨bJ.cL gO x,aF.cL gP y⟩:St)=nV (tS x y):=by kernel_rfl
theorem DH {R:Type} (x:bJ.au gO) (y:aF.au gP) (K:Ex→St→Option R):sE (cj) x y K=lk K (tR x y) (tS x y):=by kernel_rfl
theorem E0 {R:Type} (other:cd R) (ho:ph tt (mS R ai aJ bu bj) (qN R cj) 0 ((aO (aI Tryz.f70)).getD 0 .skip) pL other):ph tt (mS R ai aJ bu bj) (qN R cj) 0 ((aO (aI Tryz.f70)).getD 0 .skip) pL (gq gO gP (sE (cj)) other) :=
  gQ (A:=lk) ho (kO nV (tQ ai aJ bu bj) (lk) (Cn) (DF ai aJ bu bj cj) (Cm)) tR tS DG (DH)

noncomputable def DV {R:Type} (aJ:cY R) (cj:j9 R) (x1:ak) (k0:ak→Int→Bool→Option R):Option R :=
  aJ ([34]:ak) x1 (fun y2 y3=>bif (!y2)then (k0 ([]:ak) 0 false)else (cj (List.length x1+List.length y3+List.length ([]:List Int)+64) x1 y3 ([]:List Int) (fun XC Td MS=>k0 (sU MS) (IntKind.i64.wrap ((XC.length:Int) - (Td.length:Int))) true) (fun Vo Zp Zq JH JI I3=>k0 Zp Zq JH)))
noncomputable def gM {R:Type}:pU R:=fun x1 k0=>DV aJ cj x1 k0
theorem I9 {R:Type} (ai:bF R) (aJ:cY R) (bu:eW R) (bj:eB R) (cj:j9 R) (x1:ak) (k:V→ay→Option R):iq tt (mS R ai aJ bu bj) (qN R cj) false Tryz.f70 (aI Tryz.f70) [.str x1] [] k =
    DV aJ cj x1 (fun q0 q1 q2=>k (.tuple [.str q0, .int .i64 q1, .bool q2]) []):=by kernel_rfl
theorem FJ (R:Type):∀a∈aO (aI Tryz.f70),cG tt (mS R ai aJ bu bj) (qN R cj) 0 a:=by
  refine bB 1 (by kernel_rfl) fun i hi => ?_
  match i,hi with
  | 0,_=>exact fT (by kernel_rfl) (E0 _ jA)
  | n+1,hi=>omega
theorem GQ (R:Type) (other:ax.Spec R) (ho:ax.Spec.Ok Tryz.prog 70 other):ax.Spec.Ok Tryz.prog 70 (az uU uV (CX gM) other) :=
  bm ho (bc TT mixed (HW R) (keep:=false) rfl rfl rfl rfl 0 (FJ R)) fun (x:bJ.au uU) (y:aF.au uV) k=>I9 ai aJ bu bj cj x.1 k

/-! ### humpyard/lexer.next -/
abbrev oV (R:Type):Type:=ak→(Token→Int→Option R)→Option R
abbrev AD:List bJ := [.leaf (.str)]
abbrev AE:List aF := []
noncomputable def Gc {R:Type} (fn:oV R):bJ.au AD→aF.au AE→(V→ay→Option R)→Option R:=fun x y k=>fn x.1 (fun q0 q1=>k (.tuple [.agg [.int .i64 q0.kind, .str q0.text, .int .i64 q0.num.aw, .int .i64 q0.num.exp, .int .i64 q0.at_], .int .i64 q1]) [])
noncomputable def AF (R:Type) (gM:pU R) (dL:pS R) (cx:jF R):Env R:=fun i=>match i with
  | 70=>some (true,(az uU uV (CX gM) aZ))
  | 69=>some (true,(az uQ uR (CT dL) aZ))
  | 71=>some (true,(S7 R))
  | 47=>some (true,(az uh ui (Bh cx) aZ))
  | _=>none
theorem LU (R:Type):po Tryz.prog (AF R gM dL cx):=by
  intro i b sp h
  unfold AF at h
  split at h
  · cases h; exact ⟨(GQ R _ (aM _)),fun h=>nomatch h⟩
  · cases h; exact ⟨(GP R _ (aM _)),fun h=>nomatch h⟩
  · cases h; exact ⟨(Xs),fun h=>nomatch h⟩
  · cases h; exact ⟨(CQ R _ (aM _)),fun h=>nomatch h⟩
  · cases h

noncomputable def HX (R:Type):Nat→Option (Hint × cd R):=fun i=>match i with
  | _=>none

noncomputable def HY {R:Type} (gM:pU R) (dL:pS R) (cx:jF R) (x1:ak) (k0:Token→Int→Option R):Option R :=
  cR (decide ((0:Int)<x1.length)) (let j23:=cx x1 ([97,98,99,100,101,102,103,104,105,106,107,108,109,110,111,112,113,114,115,116,117,118,119,120,121,122]:ak) (fun MS=>bif (MS==([116,114,117,101]:ak))then (k0 (⟨4,MS,⟨0,0⟩,0⟩:Token) (MS.length:Int))else (bif (MS==([102,97,108,115,101]:ak))then (k0 (⟨4,MS,⟨0,0⟩,0⟩:Token) (MS.length:Int))else (bif (!(MS==([110,117,108,108]:ak)))then (k0 (⟨0,([]:ak),⟨0,0⟩,0⟩:Token) 0)else (k0 (⟨4,MS,⟨0,0⟩,0⟩:Token) (MS.length:Int))))); bif (((x1.getD 0 0).toNat:Int)==45)then (cx x1 ([48,49,50,51,52,53,54,55,56,57,43,45,46,101,69]:ak) (fun y6=>dL y6 (fun y7 y8=>bif (!y8)then (k0 (⟨0,([]:ak),⟨0,0⟩,0⟩:Token) 0)else (k0 (⟨3,y6,⟨y7.aw,y7.exp⟩,0⟩:Token) (y6.length:Int)))))else (bif (decide (((x1.getD 0 0).toNat:Int)≥(48:Int)))then (bif (decide (((x1.getD 0 0).toNat:Int)≤(57:Int)))then (cx x1 ([48,49,50,51,52,53,54,55,56,57,43,45,46,101,69]:ak) (fun y9=>dL y9 (fun B5 B6=>bif (!B6)then (k0 (⟨0,([]:ak),⟨0,0⟩,0⟩:Token) 0)else (k0 (⟨3,y9,⟨B5.aw,B5.exp⟩,0⟩:Token) (y9.length:Int)))))else (bif (((x1.getD 0 0).toNat:Int)==34)then (gM x1 (fun JG MR QY=>bif (!QY)then (k0 (⟨0,([]:ak),⟨0,0⟩,0⟩:Token) 0)else (k0 (⟨2,JG,⟨0,0⟩,0⟩:Token) MR)))else (bif (decide ((Fo ([123,125,91,93,44,58]:ak) ((x1.getD 0 0).toNat:Int))≥(0:Int)))then (cR (decide ((1:Int)≤x1.length)) (k0 (⟨1,((x1.drop 0).take (1 - 0)),⟨0,0⟩,0⟩:Token) 1))else (j23))))else (bif (((x1.getD 0 0).toNat:Int)==34)then (gM x1 (fun Mq XC Td=>bif (!Td)then (k0 (⟨0,([]:ak),⟨0,0⟩,0⟩:Token) 0)else (k0 (⟨2,Mq,⟨0,0⟩,0⟩:Token) XC)))else (bif (decide ((Fo ([123,125,91,93,44,58]:ak) ((x1.getD 0 0).toNat:Int))≥(0:Int)))then (cR (decide ((1:Int)≤x1.length)) (k0 (⟨1,((x1.drop 0).take (1 - 0)),⟨0,0⟩,0⟩:Token) 1))else (j23)))))
noncomputable def fJ {R:Type}:oV R:=fun x1 k0=>HY gM dL cx x1 k0
theorem MX {R:Type} (gM:pU R) (dL:pS R) (cx:jF R) (x1:ak) (k:V→ay→Option R):iq tt (AF R gM dL cx) (HX R) false Tryz.f48 (aI Tryz.f48) [.str x1] [] k =
    HY gM dL cx x1 (fun q0 q1=>k (.tuple [.agg [.int .i64 q0.kind, .str q0.text, .int .i64 q0.num.aw, .int .i64 q0.num.exp, .int .i64 q0.at_], .int .i64 q1]) []):=by kernel_rfl
theorem Ja (R:Type):∀a∈aO (aI Tryz.f48),cG tt (AF R gM dL cx) (HX R) 0 a:=by
  refine bB 0 (by kernel_rfl) fun i hi => ?_
  omega
theorem J8 (R:Type) (other:ax.Spec R) (ho:ax.Spec.Ok Tryz.prog 48 other):ax.Spec.Ok Tryz.prog 48 (az AD AE (Gc fJ) other) :=
  bm ho (bc TT mixed (LU R) (keep:=false) rfl rfl rfl rfl 0 (Ja R)) fun (x:bJ.au AD) (y:aF.au AE) k=>MX gM dL cx x.1 k

/-! ### humpyard/lexer.Scan -/
abbrev uA (R:Type):Type:=ak→((List Token)→Int→Int→Option R)→Option R
abbrev AG:List bJ := [.leaf (.str)]
abbrev AH:List aF := []
noncomputable def Gd {R:Type} (fn:uA R):bJ.au AG→aF.au AH→(V→ay→Option R)→Option R:=fun x y k=>fn x.1 (fun q0 q1 q2=>k (.tuple [.sl .token q0 .no, .int .i64 q1, .int .i64 q2]) [])
abbrev mH (R:Type):Type:=Nat→ak→(List Token)→Int→((List Token)→Int→Int→Option R)→(Int→Int→Option R)→Option R
noncomputable def qu (R:Type) (fJ:oV R) (cx:jF R):Env R:=fun i=>match i with
  | 48=>some (true,(az AD AE (Gc fJ) aZ))
  | 47=>some (true,(az uh ui (Bh cx) aZ))
  | _=>none
theorem LV (R:Type):po Tryz.prog (qu R fJ cx):=by
  intro i b sp h
  unfold qu at h
  split at h
  · cases h; exact ⟨(J8 R _ (aM _)),fun h=>nomatch h⟩
  · cases h; exact ⟨(CQ R _ (aM _)),fun h=>nomatch h⟩
  · cases h

noncomputable def CY {R:Type} (fJ:oV R) (cx:jF R) (gm:ak→(List Token)→Int→Option R) (x2:ak) (x3:List Token) (x4:Int) (e0:(List Token)→Int→Int→Option R) (e1:Int→Int→Option R):Option R :=
  cR (decide ((0:Int)≤(x2.length:Int))&&decide ((x2.length:Int)≤x2.length)) (cR (decide ((0:Int)≤x4)&&decide (x4≤(x2.length:Int))) (cx ((x2.drop x4.toNat).take ((x2.length:Int).toNat - x4.toNat)) ([32,9,10,13]:ak) (fun y5=>bif ((IntKind.i64.wrap (x4+(y5.length:Int)))==(x2.length:Int))then (cR (decide ((x3.length+1)*48≤140737488355328)) (e0 (x3++([(⟨5,([]:ak),⟨0,0⟩,(IntKind.i64.wrap (x4+(y5.length:Int)))⟩:Token)]:List Token)) 0 0))else (cR (decide ((0:Int)≤(x2.length:Int))&&decide ((x2.length:Int)≤x2.length)) (cR (decide ((0:Int)≤(IntKind.i64.wrap (x4+(y5.length:Int))))&&decide ((IntKind.i64.wrap (x4+(y5.length:Int)))≤(x2.length:Int))) (fJ ((x2.drop (IntKind.i64.wrap (x4+(y5.length:Int))).toNat).take ((x2.length:Int).toNat - (IntKind.i64.wrap (x4+(y5.length:Int))).toNat)) (fun y6 y7=>bif (y7==0)then (e1 30 (IntKind.i64.wrap (x4+(y5.length:Int))))else (cR (decide ((x3.length+1)*48≤140737488355328)) (gm x2 (x3++([(⟨y6.kind,y6.text,⟨y6.num.aw,y6.num.exp⟩,(IntKind.i64.wrap (x4+(y5.length:Int)))⟩:Token)]:List Token)) (IntKind.i64.wrap ((IntKind.i64.wrap (x4+(y5.length:Int)))+y7)))))))))))
noncomputable def cT {R:Type}:mH R
  | 0,_,_,_,_,_=>none
  | n+1,mQ,mR,nI,e0,e1=>CY fJ cx (fun mQ mR nI=>cT n mQ mR nI e0 e1) mQ mR nI e0 e1
noncomputable def s9:Hint := { live := [0,2,4],own := [(2, .token)],rows := [],cells := [],drop := [],out := [2,3,4] }
abbrev ka:Type:=ak × (List Token) × Int
noncomputable def qv:ka→St:=fun d=>⟨[.str d.1, .undef, .sl .token d.2.1 (.own 0), .undef, .int .i64 d.2.2, .undef, .undef, .undef, .undef, .undef, .undef, .undef, .undef, .undef, .undef, .undef, .undef, .undef, .undef, .undef, .undef, .undef, .undef, .undef, .undef, .undef, .undef, .undef, .undef, .undef, .undef, .undef, .undef, .undef, .undef, .undef, .undef, .undef, .undef, .undef, .undef, .undef, .undef, .undef, .undef], [.tok]⟩
noncomputable def wW {R:Type} (K:Ex→St→Option R) (q0:List Token) (q1:Int) (q2:Int):Option R:=K (.ret) ⟨[.undef, .undef, .sl .token q0 (.own 0), .int .i64 q1, .int .i64 q2, .undef, .undef, .undef, .undef, .undef, .undef, .undef, .undef, .undef, .undef, .undef, .undef, .undef, .undef, .undef, .undef, .undef, .undef, .undef, .undef, .undef, .undef, .undef, .undef, .undef, .undef, .undef, .undef, .undef, .undef, .undef, .undef, .undef, .undef, .undef, .undef, .undef, .undef, .undef, .undef], [.tok]⟩
noncomputable def wX {R:Type} (K:Ex→St→Option R) (q0:Int) (q1:Int):Option R:=K (.ret) ⟨[.undef, .undef, .cw, .int .i64 q0, .int .i64 q1, .undef, .undef, .undef, .undef, .undef, .undef, .undef, .undef, .undef, .undef, .undef, .undef, .undef, .undef, .undef, .undef, .undef, .undef, .undef, .undef, .undef, .undef, .undef, .undef, .undef, .undef, .undef, .undef, .undef, .undef, .undef, .undef, .undef, .undef, .undef, .undef, .undef, .undef, .undef, .undef], []⟩
noncomputable def yf {R:Type} (fJ:oV R) (cx:jF R) (K:Ex→St→Option R) (rc:ka→Option R) (d:ka):Option R:=CY fJ cx (fun z0 z1 z2=>rc (z0,z1,z2)) d.1 d.2.1 d.2.2 (wW K) (wX K)
noncomputable def nC {R:Type} (K:Ex→St→Option R) (n:Nat) (d:ka):Option R:=cT n d.1 d.2.1 d.2.2 (wW K) (wX K)
abbrev kb:List bJ := [.leaf (.str), .leaf (.undef), .leaf (.Mp .token 0), .leaf (.undef), .leaf (.int .i64), .leaf (.undef), .leaf (.undef), .leaf (.undef), .leaf (.undef), .leaf (.undef), .leaf (.undef), .leaf (.undef), .leaf (.undef), .leaf (.undef), .leaf (.undef), .leaf (.undef), .leaf (.undef), .leaf (.undef), .leaf (.undef), .leaf (.undef), .leaf (.undef), .leaf (.undef), .leaf (.undef), .leaf (.undef), .leaf (.undef), .leaf (.undef), .leaf (.undef), .leaf (.undef), .leaf (.undef), .leaf (.undef), .leaf (.undef), .leaf (.undef), .leaf (.undef), .leaf (.undef), .leaf (.undef), .leaf (.undef), .leaf (.undef), .leaf (.undef), .leaf (.undef), .leaf (.undef), .leaf (.undef), .leaf (.undef), .leaf (.undef), .leaf (.undef), .leaf (.undef)]
abbrev ke:List aF := [.tok]
noncomputable def yg (x:bJ.au kb) (y:aF.au ke):Nat:=(List.length x.1+List.length x.2.2.1+Int.natAbs x.2.2.2.2.1+64)
noncomputable def yh (x:bJ.au kb) (y:aF.au ke):ka:=(x.1,x.2.2.1,x.2.2.2.2.1)
noncomputable def wY {R:Type} (L:mH R):bJ.au kb→aF.au ke→(Ex→St→Option R)→Option R:=fun x y K=>L (yg x y) x.1 x.2.2.1 x.2.2.2.2.1 (wW K) (wX K)
noncomputable def wZ (R:Type) (cT:mH R):Nat→Option (Hint × cd R):=fun i=>match i with
  | 3=>some (s9,(gq kb ke (wY cT) qg))
  | _=>none

theorem FK {R:Type} (fJ:oV R) (cx:jF R) (cT:mH R) (K:Ex→St→Option R) (rc:St→Option R) (d:ka):roundOf tt (qu R fJ cx) (wZ R cT) 0 ((aO (aI Tryz.f25)).getD 0 .skip) s9 (qv d) rc K=yf fJ cx K (fun d=>rc (qv d)) d:=by kernel_rfl
theorem Ed {R:Type} (K:Ex→St→Option R) (n:Nat) (d:ka):nC K (n+1) d=yf fJ cx K (nC K n) d:=by kernel_rfl
theorem Ee {R:Type} (K:Ex→St→Option R) (d:ka):nC K 0 d=none:=by kernel_rfl
theorem FL (x:bJ.au kb) (y:aF.au ke):(⟨bJ.cL kb x,aF.cL ke y⟩:St)=qv (yh x y):=by kernel_rfl
theorem FM {R:Type} (x:bJ.au kb) (y:aF.au ke) (K:Ex→St→Option R):wY (cT) x y K=nC K (yg x y) (yh x y):=by kernel_rfl
theorem HZ {R:Type} (other:cd R) (ho:ph tt (qu R fJ cx) (wZ R cT) 0 ((aO (aI Tryz.f25)).getD 0 .skip) s9 other):ph tt (qu R fJ cx) (wZ R cT) 0 ((aO (aI Tryz.f25)).getD 0 .skip) s9 (gq kb ke (wY (cT)) other) :=
  gQ (A:=nC) ho (kO qv (yf fJ cx) (nC) (Ee) (FK fJ cx cT) (Ed)) yg yh FL (FM)

noncomputable def H0 {R:Type} (cT:mH R) (x1:ak) (k0:(List Token)→Int→Int→Option R):Option R :=
  bif (decide ((x1.length:Int)>(20000:Int)))then (k0 ([]:List Token) 30 0)else (cT (List.length x1+List.length ([]:List Token)+Int.natAbs 0+64) x1 ([]:List Token) 0 (fun y8 y9 B5=>k0 y8 y9 B5) (fun B6 HM=>k0 ([]:List Token) B6 HM))
noncomputable def mT {R:Type}:uA R:=fun x1 k0=>H0 cT x1 k0
theorem MY {R:Type} (fJ:oV R) (cx:jF R) (cT:mH R) (x1:ak) (k:V→ay→Option R):iq tt (qu R fJ cx) (wZ R cT) false Tryz.f25 (aI Tryz.f25) [.str x1] [] k =
    H0 cT x1 (fun q0 q1 q2=>k (.tuple [.sl .token q0 .no, .int .i64 q1, .int .i64 q2]) []):=by kernel_rfl
theorem Jb (R:Type):∀a∈aO (aI Tryz.f25),cG tt (qu R fJ cx) (wZ R cT) 0 a:=by
  refine bB 1 (by kernel_rfl) fun i hi => ?_
  match i,hi with
  | 0,_=>exact fT (by kernel_rfl) (HZ _ jA)
  | n+1,hi=>omega
theorem J9 (R:Type) (other:ax.Spec R) (ho:ax.Spec.Ok Tryz.prog 25 other):ax.Spec.Ok Tryz.prog 25 (az AG AH (Gd mT) other) :=
  bm ho (bc TT mixed (LV R) (keep:=false) rfl rfl rfl rfl 0 (Jb R)) fun (x:bJ.au AG) (y:aF.au AH) k=>MY fJ cx cT x.1 k

/-! ### humpyard/humpyardlaw03.pick -/
abbrev uB (R:Type):Type:=Int→Int→(Int→Option R)→Option R
abbrev AI:List bJ := [.leaf (.int .i64), .leaf (.int .i64)]
abbrev AJ:List aF := []
noncomputable def Ge {R:Type} (fn:uB R):bJ.au AI→aF.au AJ→(V→ay→Option R)→Option R:=fun x y k=>fn x.1 x.2.1 (fun q0=>k (.int .i64 q0) [])
noncomputable def AK (R:Type):Env R:=fun i=>match i with
  | _=>none
theorem LW (R:Type):po Tryz.prog (AK R):=by
  intro i b sp h
  unfold AK at h
  split at h
  · cases h

noncomputable def H2 (R:Type):Nat→Option (Hint × cd R):=fun i=>match i with
  | _=>none

noncomputable def H3 {R:Type} (x1:Int) (x2:Int) (k0:Int→Option R):Option R :=
  bif (decide (x1<(0:Int)))then (cR (!decide (x2=0)) (k0 (Int.tmod (IntKind.i64.wrap (0 - (IntKind.i64.wrap (x1+1)))) x2)))else (cR (!decide (x2=0)) (k0 (Int.tmod x1 x2)))
noncomputable def jY {R:Type}:uB R:=fun x1 x2 k0=>H3 x1 x2 k0
theorem MZ {R:Type} (x1:Int) (x2:Int) (k:V→ay→Option R):iq tt (AK R) (H2 R) false Tryz.f27 (aI Tryz.f27) [.int .i64 x1, .int .i64 x2] [] k =
    H3 x1 x2 (fun q0=>k (.int .i64 q0) []):=by kernel_rfl
theorem Jc (R:Type):∀a∈aO (aI Tryz.f27),cG tt (AK R) (H2 R) 0 a:=by
  refine bB 0 (by kernel_rfl) fun i hi => ?_
  omega
theorem Ka (R:Type) (other:ax.Spec R) (ho:ax.Spec.Ok Tryz.prog 27 other):ax.Spec.Ok Tryz.prog 27 (az AI AJ (Ge jY) other) :=
  bm ho (bc TT mixed (LW R) (keep:=false) rfl rfl rfl rfl 0 (Jc R)) fun (x:bJ.au AI) (y:aF.au AJ) k=>MZ x.1 x.2.1 k

/-! ### humpyard/humpyardlaw03.Word -/
abbrev Gf (R:Type):Type:=Fu→(ak→Option R)→Option R
abbrev DI:List bJ := [.agg [.int .i64, .int .i64, .int .i64, .sl (.int .i64)]]
abbrev DJ:List aF := []
noncomputable def M0 {R:Type} (fn:Gf R):bJ.au DI→aF.au DJ→(V→ay→Option R)→Option R:=fun x y k=>fn (⟨x.1.1,x.1.2.1,x.1.2.2.1,x.1.2.2.2.1⟩:Fu) (fun q0=>k (.str q0) [])
noncomputable def AL (R:Type) (br:fI R) (bM:iz R) (cZ:lU R) (aX:eQ R) (jY:uB R):Env R:=fun i=>match i with
  | 37=>some (true,(az sV sW (yz br) aZ))
  | 26=>some (true,(az qW qX (wF bM) aZ))
  | 28=>some (true,(az yQ yR (Dq cZ) aZ))
  | 46=>some (true,(az oi oj (s7 aX) aZ))
  | 27=>some (true,(az AI AJ (Ge jY) aZ))
  | _=>none
theorem LX (R:Type):po Tryz.prog (AL R br bM cZ aX jY):=by
  intro i b sp h
  unfold AL at h
  split at h
  · cases h; exact ⟨(zw R _ (aM _)),fun h=>nomatch h⟩
  · cases h; exact ⟨(xZ R _ (aM _)),fun h=>nomatch h⟩
  · cases h; exact ⟨(EH R _ (aM _)),fun h=>nomatch h⟩
  · cases h; exact ⟨(vd R _ (aM _)),fun h=>nomatch h⟩
  · cases h; exact ⟨(Ka R _ (aM _)),fun h=>nomatch h⟩
  · cases h

noncomputable def H4 (R:Type):Nat→Option (Hint × cd R):=fun i=>match i with
  | _=>none

noncomputable def H5 {R:Type} (br:fI R) (bM:iz R) (cZ:lU R) (aX:eQ R) (jY:uB R) (x1:Fu) (k0:ak→Option R):Option R :=
  jY x1.kind 4 (fun y2=>bif (y2==0)then (jY x1.aw 6 (fun y3=>cR (decide ((0:Int)≤y3)&&decide (y3<(6:Int))) (k0 (([([123]:ak),([125]:ak),([91]:ak),([93]:ak),([44]:ak),([58]:ak)]:List ak).getD y3.toNat (Ty.cg .str)))))else (bif (y2==1)then (cR (decide ((0:Int)≤(min (x1.text.length:Int) 30))&&decide ((min (x1.text.length:Int) 30)≤x1.text.length)) (cR (decide ((0:Int)≤(min (x1.text.length:Int) 30))) (br ((x1.text.drop 0).take ((min (x1.text.length:Int) 30).toNat - 0)) (fun y4=>bM y4 (fun y5 y6=>k0 y5)))))else (bif (y2==2)then (cZ x1.aw x1.exp (fun y7=>aX y7 (fun y8=>k0 y8)))else (jY x1.aw 3 (fun y9=>cR (decide ((0:Int)≤y9)&&decide (y9<(3:Int))) (k0 (([([116,114,117,101]:ak),([102,97,108,115,101]:ak),([110,117,108,108]:ak)]:List ak).getD y9.toNat (Ty.cg .str))))))))
noncomputable def LY {R:Type}:Gf R:=fun x1 k0=>H5 br bM cZ aX jY x1 k0
theorem M1 {R:Type} (br:fI R) (bM:iz R) (cZ:lU R) (aX:eQ R) (jY:uB R) (x1:Fu) (k:V→ay→Option R):iq tt (AL R br bM cZ aX jY) (H4 R) false Tryz.f24 (aI Tryz.f24) [.agg [.int .i64 x1.kind, .int .i64 x1.aw, .int .i64 x1.exp, .sl (.int .i64) x1.text .no]] [] k =
    H5 br bM cZ aX jY x1 (fun q0=>k (.str q0) []):=by kernel_rfl
theorem Jd (R:Type):∀a∈aO (aI Tryz.f24),cG tt (AL R br bM cZ aX jY) (H4 R) 0 a:=by
  refine bB 0 (by kernel_rfl) fun i hi => ?_
  omega
theorem Vv (R:Type) (other:ax.Spec R) (ho:ax.Spec.Ok Tryz.prog 24 other):ax.Spec.Ok Tryz.prog 24 (az DI DJ (M0 LY) other) :=
  bm ho (bc TT mixed (LX R) (keep:=false) rfl rfl rfl rfl 0 (Jd R)) fun (x:bJ.au DI) (y:aF.au DJ) k=>M1 br bM cZ aX jY (⟨x.1.1,x.1.2.1,x.1.2.2.1,x.1.2.2.2.1⟩:Fu) k

end Go.Proofs.YtmlkkgfenfdndaaGreatDoor

set_option maxRecDepth 100000
namespace Go.Proofs.YtmlkkgfenfdndaaGreatDoor
open Go Go.ax Go.Lib

def Th (s:ak):Option (Nat × ak):=if s.length<4 then none else match hexN (s.take 4) 0 with|some v=>some (v,s.drop 4)|none=>none
def XK (s:ak):Option (Nat × ak) :=
  match Th s with
  | none=>none
  | some (v,r) =>
    if v<55296∨57344≤v then some (v,r)else if 56320≤v then none
    else if ([92,117]:ak).isPrefixOf r then
      match Th (r.drop 2)with
      | none=>none
      | some (w,r2)=>if 56320≤w∧w<57344 then some (65536+(v - 55296)*1024+(w - 56320),r2)else none
    else none

def escP:ak→Option (Nat × ak)
  | []=>none
  | b::t =>
    if b.toNat=34∨b.toNat=92∨b.toNat=47 then some (b.toNat,t)else if b.toNat=98 then some (8,t)else if b.toNat=102 then some (12,t)else if b.toNat=110 then some (10,t)
    else if b.toNat=114 then some (13,t)else if b.toNat=116 then some (9,t)else if b.toNat=117 then XK t else none


def Ef:ak := [48,49,50,51,52,53,54,55,56,57,97,98,99,100,101,102]
def oW (c:Nat):Nat:=if c=34∨c=92 then c else if c=8 then 98 else if c=12 then 102 else if c=10 then 110 else if c=13 then 114 else if c=9 then 116 else 0
def qc (c:Nat):ak:=if oW c≠0 then [92,UInt8.ofNat (oW c)]else if c<32 then [92,117,48,48,Ef.getD (c / 16) 0,Ef.getD (c % 16) 0]else enc c
def H6 (rs:List Nat):ak:=rs.flatMap qc
def qt (rs:List Nat):ak:=34::(H6 rs ++ [34])

theorem UT (c:Nat):oW c<256:=by unfold oW; (repeat' split) <;> omega
theorem XL {R:Type} (c:Nat) (k:Int→Option R):dH (c:Int) k=k (oW c:Int):=by
  show yH (c:Int) k=_
  unfold yH oW
  have b:∀n:Nat,((c:Int)==(n:Int))=decide (c=n):=fun n=>by
    by_cases h:c=n
    · subst h; simp
    · have:¬((c:Int)=(n:Int)):=by omega
      simp[h,this]
  have b34:((c:Int)==34)=decide (c=34):=b 34
  have b92:((c:Int)==92)=decide (c=92):=b 92
  have b8:((c:Int)==8)=decide (c=8):=b 8
  have b12:((c:Int)==12)=decide (c=12):=b 12
  have b10:((c:Int)==10)=decide (c=10):=b 10
  have b13:((c:Int)==13)=decide (c=13):=b 13
  have b9:((c:Int)==9)=decide (c=9):=b 9
  rw[b34,b92,b8,b12,b10,b13,b9]
  have w:IntKind.u8.wrap (c:Int)=((c % 256:Nat):Int):=XA c
  by_cases XM:c=34
  · subst XM; rfl
  by_cases XO:c=92
  · subst XO; rfl
  simp only[XM,XO,decide_false,cond_false,or_self,if_false]
  by_cases h8:c=8
  · subst h8; rfl
  by_cases h12:c=12
  · subst h12; rfl
  by_cases h10:c=10
  · subst h10; rfl
  by_cases h13:c=13
  · subst h13; rfl
  by_cases h9:c=9
  · subst h9; rfl
  simp[h8,h12,h10,h13,h9]

theorem Qt (s:ak) (pos:Nat):mi s pos=decodeL (s.drop pos):=by
  unfold mi
  exact (decodeL_drop ⟨s.toArray⟩ pos).symm

theorem Qu (rs:List Nat) (c:Nat) (t:List Nat):cL (rs++c::t)=cL rs++(enc c++cL t):=by simp[cL]

theorem hexdig:∀c:Fin 32,(Int.fdiv (c.val:Int) (2 ^ (min 4 IntKind.i32.bits)))=((c.val / 16:Nat):Int)∧IntKind.i32.wrap ((BitVec.ofInt IntKind.i32.bits (c.val:Int) &&& BitVec.ofInt IntKind.i32.bits 15).toNat:Int)=((c.val % 16:Nat):Int):=by decide +kernel

theorem XP {c:Nat} (hv:vr c):(qc c).length≤6:=by
  unfold qc
  split
  · simp
  · split
    · simp
    · have:=B3 hv; omega

theorem Qv {R:Type} {x:ak} {pos c:Nat} (hp:pos<x.length) {t:ak} (hd:x.drop pos=enc c++t) (hv:vr c) (o:ak) (ho:o.length≤90000000000) (gm:List Int→ak→Nat→Option R) (e0:List Int→Option R) :
    kQ ad dH af ai gm (zs o) x pos e0=gm (zs (o++qc c)) x (pos+(enc c).length):=by
  unfold kQ
  have hr:mi x pos=(c,(enc c).length):=by rw[Qt,hd,Hx hv]
  rw[hr,cu hp,cond_true]
  simp only
  rw[XL]
  have T3:∀z:ak,z.length≤10→I8 (o++z):=fun z hz=>by unfold I8; rw[List.length_append]; omega
  have XQ:I8 o:=by unfold I8; omega
  by_cases hs:oW c≠0
  · have e:((oW c:Int) != 0)=true:=by
      exact bne_iff_ne.2 (by omega)
    rw[e,cond_true]
    have XO:(92:Int)=((92:UInt8).toNat:Int):=rfl
    rw[XO,wb _ o XQ]
    have h2:(oW c:Int)=((UInt8.ofNat (oW c)).toNat:Int):=by rw[gR _ (UT c)]
    rw[h2,wb _ _ (T3 [92] (by simp))]
    have:qc c = [92,UInt8.ofNat (oW c)]:=by unfold qc; rw[if_pos hs]
    rw[this,List.append_assoc]
    rfl
  · have hs0:oW c=0:=by omega
    have e:((oW c:Int) != 0)=false:=by rw[hs0]; rfl
    rw[e,cond_false]
    by_cases XR:c<32
    · rw[cu (show (c:Int)<32 by omega),cond_true,ws _ o (by simp) XQ]
      obtain ⟨k1,k2⟩:=hexdig ⟨c,XR⟩
      simp only at k1 k2
      rw[k1,k2,bH (by rw[cu (by omega),cu (by omega)]; rfl)]
      rw[Int.toNat_natCast,Int.toNat_natCast,wb _ _ (T3 [92,117,48,48] (by simp)),bH (by rw[cu (by omega),cu (by omega)]; rfl)]
      rw[List.append_assoc o,wb _ _ (T3 _ (by simp))]
      have:qc c = [92,117,48,48,Ef.getD (c / 16) 0,Ef.getD (c % 16) 0]:=by unfold qc; rw[if_neg hs,if_pos XR]
      rw[this,List.append_assoc o]
      rfl
    · rw[jB (show ¬(c:Int)<32 by omega),cond_false]
      obtain ⟨n,hn⟩:=wr hv o XQ (fun GK JG=>gm JG x (pos+(enc c).length))
      rw[hn]
      have:qc c=enc c:=by unfold qc; rw[if_neg hs,if_neg XR]
      rw[this]

theorem Sl {R:Type} (rs:List Nat):∀(n:Nat) (done:List Nat) (o:ak),rs.length<n→(∀c∈rs,vr c)→(∀c∈done,vr c)→o.length+6*rs.length≤80000000000→∀e0:List Int→Option R,
    bY n (zs o) (cL (done++rs)) (cL done).length e0=e0 (zs (o++H6 rs)):=by
  induction rs with
  | nil =>
    intro n done o hn _ _ _ e0
    obtain ⟨m,rfl⟩:∃m,n=m+1:=⟨n - 1,by simp at hn; omega⟩
    show kQ ad dH af ai _ (zs o) (cL (done ++ [])) (cL done).length e0=_
    unfold kQ
    rw[List.append_nil,jB (Nat.lt_irrefl _),cond_false]
    simp[H6]
  | cons c rs ih =>
    intro n done o hn hr hd hl e0
    obtain ⟨m,rfl⟩:∃m,n=m+1:=⟨n - 1,by simp at hn; omega⟩
    have hv:=hr c (by simp)
    have he:=B3 hv
    have hq:=XP hv
    simp only[List.length_cons]at hn hl
    show kQ ad dH af ai (fun mQ mR nI=>bY m mQ mR nI e0) (zs o) (cL (done++c::rs)) (cL done).length e0=_
    rw[Qv (c:=c) (t:=cL rs) (by rw[Qu,List.length_append,List.length_append]; omega) (by rw[Qu,List.drop_left]) hv o (by omega)]
    have e1:done++c::rs=(done ++ [c])++rs:=by simp
    have e2:(cL done).length+(enc c).length=(cL (done ++ [c])).length:=by rw[IV,List.length_append]
    rw[e1,e2,ih m (done ++ [c]) (o++qc c) (by omega) (fun x hx=>hr x (by simp[hx])) (fun x hx=>by
      rcases List.mem_append.1 hx with h|h
      · exact hd x h
      · simp at h; subst h; exact hv) (by rw[List.length_append]; omega)]
    rw[List.append_assoc]
    rfl

theorem GR:∀(rs:List Nat),(∀c∈rs,vr c)→rs.length≤(cL rs).length∧(cL rs).length≤4*rs.length
  | [],_=>by simp[cL]
  | c::rs,h=>by
    have h1:=B3 (h c (by simp))
    have h2:=GR rs (fun x hx=>h x (by simp[hx]))
    have:cL (c::rs)=enc c++cL rs:=by simp[cL]
    rw[this,List.length_append,List.length_cons]
    omega
theorem NK:∀(rs:List Nat),(∀c∈rs,vr c)→(H6 rs).length≤6*rs.length
  | [],_=>by simp[H6]
  | c::rs,h=>by
    have h1:=XP (h c (by simp))
    have h2:=NK rs (fun x hx=>h x (by simp[hx]))
    have:H6 (c::rs)=qc c++H6 rs:=by simp[H6]
    rw[this,List.length_append,List.length_cons]
    omega

theorem XS {R:Type} (rs:List Nat) (hr:∀c∈rs,vr c) (hl:rs.length≤10000000000) (k:ak→Bool→Option R):bM (cL rs) k=k (qt rs) true:=by
  have hc:=GR rs hr
  have hq:=NK rs hr
  have hw:iu (cL rs)=true:=xR.2 ⟨rs,hr,rfl⟩
  show qY bk ah ad bY (cL rs) k=_
  unfold qY
  have q:∀(x:ak) (f:Bool→Option R),bk x f=f (iu x):=fun _ _=>rfl
  have q2:∀(x:Int) (f:List Int→Option R),ah x f=f [x]:=fun _ _=>rfl
  rw[q,hw,Bool.not_true,cond_false,q2]
  have e34:([34]:List Int)=zs [34]:=rfl
  rw[e34]
  have:=Sl (R:=R) rs (List.length (zs [34])+List.length (cL rs)+64) [] [34] (by omega) hr (by simp) (by simp; omega)
  rw[List.nil_append]at this
  have e0:(cL []).length=0:=rfl
  rw[e0]at this
  rw[this]
  have XM:(34:Int)=((34:UInt8).toNat:Int):=rfl
  rw[XM,wb _ _ (by unfold I8; rw[List.length_append]; simp; omega),uT]
  rfl

theorem UU {R:Type} (s:ak) (h:iu s=false) (k:ak→Bool→Option R):bM s k=k [] false:=by
  show qY bk ah ad bY s k=_
  unfold qY
  have q:∀(x:ak) (f:Bool→Option R),bk x f=f (iu x):=fun _ _=>rfl
  rw[q,h]
  rfl

def XT (s:ak):Option (Nat × ak):=if ([92]:ak).isPrefixOf s then escP (s.drop 1)else XJ s
def uq:Nat→ak→ak→Option (ak × ak)
  | 0,_,_=>none
  | n+1,s,o=>if ([34]:ak).isPrefixOf s then some (o,s.drop 1)else match XT s with|none=>none|some (c,r)=>uq n r (o++enc c)

def uqS (s:ak):Option (ak × ak):=if ([34]:ak).isPrefixOf s then uq (s.length+1) (s.drop 1) []else none

theorem LZ (a b:UInt8) (t:ak):([a]:ak).isPrefixOf (b::t)=(a==b):=by
  simp[List.isPrefixOf]

theorem XU:∀c:Fin 32,hexN [48,48,Ef.getD (c.val / 16) 0,Ef.getD (c.val % 16) 0] 0=some c.val:=by decide +kernel

theorem u8_ne {b:UInt8} {n:Nat} (hn:n<256) (h:b.toNat≠n):((UInt8.ofNat n)==b)=false:=by
  rw[beq_eq_false_iff_ne]
  rintro rfl
  rw[gR n hn]at h
  exact h rfl

theorem UW {c:Nat} (hv:vr c) (h:32≤c) (XM:c≠34) (XO:c≠92):∃b t,enc c=b::t∧b.toNat≠34∧b.toNat≠92:=by
  have ln:=ND hv
  rcases CJ hv with ⟨h1,e⟩|⟨h0,h1,e⟩|⟨h0,h1,e⟩|⟨h0,e⟩
  · exact ⟨_,_,e,by rw[gR _ (by omega)]; exact XM,by rw[gR _ (by omega)]; exact XO⟩
  · exact ⟨_,_,e,by rw[gR _ (by omega)]; omega,by rw[gR _ (by omega)]; omega⟩
  · exact ⟨_,_,e,by rw[gR _ (by omega)]; omega,by rw[gR _ (by omega)]; omega⟩
  · exact ⟨_,_,e,by rw[gR _ (by omega)]; omega,by rw[gR _ (by omega)]; omega⟩

theorem OZ (c:Nat):(oW c=0∧c≠34∧c≠92)∨c=34∨c=92∨c=8∨c=12∨c=10∨c=13∨c=9:=by
  unfold oW
  by_cases h1:c=34 <;> by_cases h2:c=92 <;> by_cases h3:c=8 <;> by_cases h4:c=12 <;> by_cases h5:c=10 <;> by_cases h6:c=13 <;> by_cases h7:c=9 <;> simp[h1,h2,h3,h4,h5,h6,h7]

theorem qc_hex {c:Nat} (h0:oW c=0) (h:c<32):qc c = [92,117,48,48,Ef.getD (c / 16) 0,Ef.getD (c % 16) 0]:=by unfold qc; rw[if_neg (by omega),if_pos h]
theorem O0 {c:Nat} (h0:oW c=0) (h:¬c<32):qc c=enc c:=by unfold qc; rw[if_neg (by omega),if_neg h]

theorem Zx {c:Nat} (hv:vr c) (t:ak):([34]:ak).isPrefixOf (qc c++t)=false∧XT (qc c++t)=some (c,t):=by
  rcases OZ c with ⟨h0,XM,XO⟩|rfl|rfl|rfl|rfl|rfl|rfl|rfl
  · by_cases XR:c<32
    · rw[qc_hex h0 XR]
      refine ⟨rfl,?_⟩
      have hb:=XU ⟨c,XR⟩
      simp only at hb
      show XK (48::48::Ef.getD (c / 16) 0::Ef.getD (c % 16) 0::t)=some (c,t)
      have hu:Th (48::48::Ef.getD (c / 16) 0::Ef.getD (c % 16) 0::t)=some (c,t):=by
        unfold Th
        rw[if_neg (by simp only[List.length_cons]; omega)]
        have e:List.take 4 (48::48::Ef.getD (c / 16) 0::Ef.getD (c % 16) 0::t) = [48,48,Ef.getD (c / 16) 0,Ef.getD (c % 16) 0]:=rfl
        rw[e,hb]
        rfl
      unfold XK
      rw[hu]
      simp only
      rw[if_pos (.inl (by omega))]
    · rw[O0 h0 XR]
      obtain ⟨b,u,e,g1,g2⟩:=UW hv (by omega) XM XO
      have e2:enc c++t=b::(u++t):=by rw[e]; rfl
      refine ⟨?_,?_⟩
      · rw[e2,LZ]
        exact u8_ne (n:=34) (by omega) g1
      · unfold XT
        have:([92]:ak).isPrefixOf (enc c++t)=false:=by
          rw[e2,LZ]
          exact u8_ne (n:=92) (by omega) g2
        rw[this]
        simp only[Bool.false_eq_true,if_false]
        unfold XJ
        rw[if_neg (Xl hv t),Hx hv t]
        simp only
        have hg:=Qk hv t
        unfold Sb at hg
        rw[Hx hv t]at hg
        simp only at hg
        rw[if_neg hg,if_neg XR,List.drop_left]
  · exact ⟨rfl,rfl⟩
  · exact ⟨rfl,rfl⟩
  · exact ⟨rfl,rfl⟩
  · exact ⟨rfl,rfl⟩
  · exact ⟨rfl,rfl⟩
  · exact ⟨rfl,rfl⟩
  · exact ⟨rfl,rfl⟩

theorem uq_qc:∀(rs:List Nat),(∀c∈rs,vr c)→∀(n:Nat) (o more:ak),rs.length<n→uq n (H6 rs++34::more) o=some (o++cL rs,more)
  | [],_,n,o,more,hn=>by
    obtain ⟨m,rfl⟩:∃m,n=m+1:=⟨n - 1,by simp at hn; omega⟩
    have:H6 []++34::more=34::more:=rfl
    rw[this]
    simp[uq,List.isPrefixOf,cL]
  | c::rs,hr,n,o,more,hn=>by
    obtain ⟨m,rfl⟩:∃m,n=m+1:=⟨n - 1,by simp at hn; omega⟩
    have hv:=hr c (by simp)
    have e:H6 (c::rs)++34::more=qc c++(H6 rs++34::more):=by simp[H6]
    obtain ⟨h1,h2⟩:=Zx hv (H6 rs++34::more)
    rw[e]
    simp only[uq,h1,h2,Bool.false_eq_true,if_false]
    rw[uq_qc rs (fun x hx=>hr x (by simp[hx])) m (o++enc c) more (by simp at hn; omega)]
    simp[cL]

theorem qc_pos {c:Nat} (hv:vr c):1≤(qc c).length:=by
  unfold qc
  split
  · simp
  · split
    · simp
    · exact (B3 hv).1
theorem Ti:∀(rs:List Nat),(∀c∈rs,vr c)→rs.length≤(H6 rs).length
  | [],_=>by simp[H6]
  | c::rs,h=>by
    have h1:=qc_pos (h c (by simp))
    have h2:=Ti rs (fun x hx=>h x (by simp[hx]))
    have:H6 (c::rs)=qc c++H6 rs:=by simp[H6]
    rw[this,List.length_append,List.length_cons]
    omega

theorem XV (rs:List Nat) (hr:∀c∈rs,vr c) (more:ak):uqS (qt rs++more)=some (cL rs,more):=by
  have e:qt rs++more=34::(H6 rs++34::more):=by unfold qt; simp
  have hq:=Ti rs hr
  rw[e]
  unfold uqS
  rw[LZ]
  simp only[BEq.rfl,if_true,List.drop_succ_cons,List.drop_zero]
  have:=uq_qc rs hr ((34::(H6 rs++34::more)).length+1) [] more (by simp only[List.length_cons,List.length_append]; omega)
  rw[this]
  rfl

theorem Qw {R:Type} (x:ak) (f:Bool→Option R):bk x f=f (iu x):=rfl

theorem NL {R:Type} (s:ak) (hl:s.length≤10000000000):(∃rs:List Nat,(∀c∈rs,vr c)∧rs.length≤s.length∧s=cL rs∧iu s=true∧∀k:ak→Bool→Option R,bM s k=k (qt rs) true) ∨
    (iu s=false∧∀k:ak→Bool→Option R,bM s k=k [] false):=by
  cases h:iu s with
  | true =>
    obtain ⟨rs,hr,rfl⟩:=xR.1 h
    have:=GR rs hr
    exact .inl ⟨rs,hr,this.1,rfl,rfl,fun k=>XS rs hr (by omega) k⟩
  | false=>exact .inr ⟨rfl,fun k=>UU s h k⟩


end Go.Proofs.YtmlkkgfenfdndaaGreatDoor

/-
  Functions of the program as pure Lean functions, and the ties; printed by wip/tools/emit.py.
-/
set_option maxRecDepth 100000
namespace Go.Proofs.YtmlkkgfenfdndaaGreatDoor
open Go Go.ax

end Go.Proofs.YtmlkkgfenfdndaaGreatDoor

/-
  Functions of the program as pure Lean functions, and the ties; printed by wip/tools/emit.py.
-/
set_option maxRecDepth 100000
namespace Go.Proofs.YtmlkkgfenfdndaaGreatDoor
open Go Go.ax

end Go.Proofs.YtmlkkgfenfdndaaGreatDoor

/-
  Functions of the program as pure Lean functions, and the ties; printed by wip/tools/emit.py.
-/
set_option maxRecDepth 100000
namespace Go.Proofs.YtmlkkgfenfdndaaGreatDoor
open Go Go.ax

end Go.Proofs.YtmlkkgfenfdndaaGreatDoor

set_option maxRecDepth 100000
namespace Go.Proofs.YtmlkkgfenfdndaaGreatDoor
open Go Go.ax Go.Lib

def tail (low v n:Nat):Nat:=if v<low∨1114111<v∨(55296≤v∧v≤57343)then 0 else n

end Go.Proofs.YtmlkkgfenfdndaaGreatDoor

/-
  Functions of the program as pure Lean functions, and the ties; printed by wip/tools/emit.py.
-/
set_option maxRecDepth 100000
namespace Go.Proofs.YtmlkkgfenfdndaaGreatDoor
open Go Go.ax

end Go.Proofs.YtmlkkgfenfdndaaGreatDoor

set_option maxRecDepth 100000
namespace Go.Proofs.YtmlkkgfenfdndaaGreatDoor
open Go Go.ax Go.Lib

theorem eqI (n m:Nat):((n:Int)==(m:Int))=decide (n=m):=by
  by_cases h:n=m
  · subst h; simp
  · have:¬((n:Int)=(m:Int)):=by omega
    simp[h,this]

def qb (b:UInt8):ak :=
  if b.toNat=34∨b.toNat=92 then [92,b]else if b.toNat=8 then [92,98]else if b.toNat=9 then [92,116]else if b.toNat=10 then [92,110]else if b.toNat=12 then [92,102]else if b.toNat=13 then [92,114]
  else if b.toNat<32 then [92,117,48,48,Ef.getD (b.toNat / 16) 0,Ef.getD (b.toNat % 16) 0]else [b]

theorem qb_len (b:UInt8):(qb b).length≤6:=by unfold qb; (repeat' split) <;> simp

theorem AM {b:UInt8} (h:128≤b.toNat):qb b = [b]:=by
  unfold qb
  rw[if_neg (by omega),if_neg (by omega),if_neg (by omega),if_neg (by omega),if_neg (by omega),if_neg (by omega),if_neg (by omega)]

theorem qb_enc {c:Nat} (hv:vr c):(enc c).flatMap qb=qc c:=by
  have ln:=ND hv
  rcases CJ hv with ⟨h1,e⟩|⟨h0,h1,e⟩|⟨h0,h1,e⟩|⟨h0,e⟩
  · rw[e]
    simp only[List.flatMap_cons,List.flatMap_nil,List.append_nil]
    have hu:=gR c (by omega)
    unfold qb qc oW
    rw[hu]
    by_cases XM:c=34
    · subst XM; rfl
    by_cases XO:c=92
    · subst XO; rfl
    by_cases h8:c=8
    · subst h8; rfl
    by_cases h9:c=9
    · subst h9; rfl
    by_cases h10:c=10
    · subst h10; rfl
    by_cases h12:c=12
    · subst h12; rfl
    by_cases h13:c=13
    · subst h13; rfl
    simp only[XM,XO,h8,h9,h10,h12,h13,or_self,if_false,ne_eq,not_true_eq_false]
    by_cases XR:c<32
    · simp only[XR,if_true]
    · simp only[XR,if_false]
      rw[e]
  · have hq:qc c=enc c:=O0 (by unfold oW; rw[if_neg (by omega),if_neg (by omega),if_neg (by omega),if_neg (by omega),if_neg (by omega),if_neg (by omega)]) (by omega)
    rw[hq,e]
    simp only[List.flatMap_cons,List.flatMap_nil,List.append_nil]
    rw[AM (by rw[gR _ (by omega)]; omega),AM (by rw[gR _ (by omega)]; omega)]; rfl
  · have hq:qc c=enc c:=O0 (by unfold oW; rw[if_neg (by omega),if_neg (by omega),if_neg (by omega),if_neg (by omega),if_neg (by omega),if_neg (by omega)]) (by omega)
    rw[hq,e]
    simp only[List.flatMap_cons,List.flatMap_nil,List.append_nil]
    rw[AM (by rw[gR _ (by omega)]; omega),AM (by rw[gR _ (by omega)]; omega),AM (by rw[gR _ (by omega)]; omega)]; rfl
  · have hq:qc c=enc c:=O0 (by unfold oW; rw[if_neg (by omega),if_neg (by omega),if_neg (by omega),if_neg (by omega),if_neg (by omega),if_neg (by omega)]) (by omega)
    rw[hq,e]
    simp only[List.flatMap_cons,List.flatMap_nil,List.append_nil]
    rw[AM (by rw[gR _ (by omega)]; omega),AM (by rw[gR _ (by omega)]; omega),AM (by rw[gR _ (by omega)]; omega),AM (by rw[gR _ (by omega)]; omega)]; rfl

theorem Tj:∀(rs:List Nat),(∀c∈rs,vr c)→(cL rs).flatMap qb=H6 rs
  | [],_=>rfl
  | c::rs,h=>by
    have e:cL (c::rs)=enc c++cL rs:=by simp[cL]
    have e2:H6 (c::rs)=qc c++H6 rs:=by simp[H6]
    rw[e,e2,List.flatMap_append,qb_enc (h c (by simp)),Tj rs (fun x hx=>h x (by simp[hx]))]




theorem Zy (u:Nat):∀b∈decDigits u,48≤b.toNat∧b.toNat≤57:=by
  induction u using Nat.strongRecOn with
  | _ u ih =>
    intro b hb
    by_cases h:u<10
    · rw[decDigits,dif_pos h]at hb
      simp only[List.mem_cons,List.not_mem_nil,or_false]at hb
      subst hb
      rw[gR _ (by omega)]; omega
    · rw[decDigits,dif_neg h]at hb
      rcases List.mem_append.1 hb with hb|hb
      · exact ih (u / 10) (by omega) b hb
      · simp only[List.mem_cons,List.not_mem_nil,or_false]at hb
        subst hb
        rw[gR _ (by omega)]; omega
theorem NM (u:Nat) (hu:0<u):∃b t,decDigits u=b::t∧b.toNat≠48:=by
  induction u using Nat.strongRecOn with
  | _ u ih =>
    by_cases h:u<10
    · exact ⟨_, [],by rw[decDigits,dif_pos h],by rw[gR _ (by omega)]; omega⟩
    · obtain ⟨b,t,e,hb⟩:=ih (u / 10) (by omega) (by omega)
      exact ⟨b,t ++ [UInt8.ofNat (48+u % 10)],by rw[decDigits,dif_neg h,e]; rfl,hb⟩
theorem XW (u:Nat):∃l,decDigits u=l ++ [UInt8.ofNat (48+u % 10)]:=by
  by_cases h:u<10
  · exact ⟨[],by rw[decDigits,dif_pos h,Nat.mod_eq_of_lt h]; rfl⟩
  · exact ⟨decDigits (u / 10),by rw[decDigits,dif_neg h]⟩

theorem XX {m:Int} (h:Int.tmod m 10≠0):m.natAbs % 10≠0:=by
  intro h2
  apply h
  have e:m=(m / 10)*10:=by omega
  rw[e]
  exact Int.mul_tmod_left _ _


theorem O1 (c:UInt8):∀l:ak,Go.Lib.indexByte l c<0↔l.contains c=false
  | []=>by simp[Go.Lib.indexByte]
  | x::l=>by
    have ih:=O1 c l
    have hg:=Go.Lib.indexByte_ge l c
    unfold Go.Lib.indexByte
    rw[List.contains_cons]
    by_cases h:x=c
    · subst h; simp
    · have h2:(c==x)=false:=by rw[beq_eq_false_iff_ne]; exact fun e=>h e.symm
      rw[h2,Bool.false_or,←ih]
      split
      · rename_i h3; exact (h (beq_iff_eq.1 h3)).elim
      · split
        · rename_i h4
          have:=beq_iff_eq.1 h4
          omega
        · rename_i h4
          have:¬Go.Lib.indexByte l c = -1:=fun e=>h4 (beq_iff_eq.2 e)
          omega

def pV (CZ s:ak):Nat × ak:=match s with | []=>(0, [])|b::t=>if CZ.contains b then (b.toNat,t)else (0,b::t)

theorem AN {R:Type} (CZ s:ak) (hs:s.length≤4000000000) (k:Int→ak→Option R):aP CZ s k=k ((pV CZ s).1:Int) (pV CZ s).2:=by
  have e:aP CZ s k=kU CZ s k:=rfl
  rw[e]
  unfold kU
  cases s with
  | nil=>rfl
  | cons b t =>
    simp only[List.length_cons]at hs
    have lp:((b::t:ak)==([]:ak))=false:=rfl
    have hg:((b::t:ak).getD 0 0)=b:=rfl
    have hd:((b::t:ak).drop 1).take (((b::t:ak).length:Int).toNat - 1)=t:=by
      rw[Int.toNat_natCast,List.drop_succ_cons,List.drop_zero,List.length_cons,Nat.add_sub_cancel,List.take_length]
    have hi:Fo CZ ((b.toNat:Nat):Int)=Go.Lib.indexByte CZ b:=by
      unfold Fo
      rw[Int.toNat_natCast]
      simp
    have hl:(b::t:ak).length=t.length+1:=rfl
    rw[lp,cond_false,hg,hd,hi,hl,bH (cu (by omega))]
    unfold pV
    cases hc:CZ.contains b with
    | false =>
      rw[cu ((O1 b CZ).2 hc),cond_true]
      simp only[hc,Bool.false_eq_true,if_false]
      rfl
    | true =>
      have:¬Go.Lib.indexByte CZ b<0:=fun h=>by rw[(O1 b CZ).1 h]at hc; cases hc
      rw[jB this,cond_false,bH (cu (by omega)),bH (by rw[cu (show (0:Int)≤((t.length+1:Nat):Int) by omega),cu (by omega)]; rfl),bH (cu (by omega))]
      simp only[hc,if_true]

def XY:ak := [48,49,50,51,52,53,54,55,56,57]
def nR (b:UInt8):Prop:=48≤b.toNat∧b.toNat≤57
theorem XZ:∀n:Fin 256,XY.contains (UInt8.ofNat n.val)=decide (48≤n.val∧n.val≤57):=by decide +kernel
theorem O2 (b:UInt8):XY.contains b=decide (48≤b.toNat∧b.toNat≤57):=by
  have:=XZ ⟨b.toNat,UInt8.toNat_lt b⟩
  simpa using this

theorem Fq (p:UInt8→Bool):∀(a r:ak),(∀x∈a,p x=true)→(a++r).dropWhile p=r.dropWhile p
  | [],r,_=>rfl
  | x::a,r,h=>by
    rw[List.cons_append,List.dropWhile_cons,h x (by simp),if_pos rfl]
    exact Fq p a r fun y hy=>h y (by simp[hy])
theorem GS (p:UInt8→Bool) (r:ak) (h:∀b t,r=b::t→p b=false):r.dropWhile p=r:=by
  cases r with
  | nil=>rfl
  | cons b t=>rw[List.dropWhile_cons,h b t rfl]; rfl

theorem Je {R:Type} (a r:ak) (ha:∀x∈a,nR x) (hr:∀b t,r=b::t→¬nR b) (hl:(a++r).length≤4000000000) (k:ak→ak→Option R):aL (a++r) k=k a r:=by
  have e:aL (a++r) k=jQ (a++r) k:=rfl
  rw[e]
  unfold jQ
  have ht:bC (a++r) ([48,49,50,51,52,53,54,55,56,57]:ak)=r:=by
    unfold bC
    have h1:=Fq (fun x=>XY.contains x) a r (fun x hx=>by rw[O2]; exact cu (ha x hx))
    have h2:=GS (fun x=>XY.contains x) r (fun b t hb=>by rw[O2]; exact jB (hr b t hb))
    exact h1.trans h2
  rw[ht]
  have hlen:(a++r).length=a.length+r.length:=List.length_append
  have hw:IntKind.i64.wrap (((a++r).length:Int) - (r.length:Int))=(a.length:Int):=by rw[hlen,ef (by omega) (by omega)]; omega
  rw[hw,bH (by rfl),bH (by rw[cu (by omega),cu (by omega)]; rfl),bH (cu (by omega)),List.drop_zero,Int.toNat_natCast,Nat.sub_zero,List.take_left]

theorem X0 {R:Type} (neg:Bool) (I F X:ak) (pt:Bool) (ev:Int) (hI:∀x∈I,nR x) (hI0:I ≠ []) (hI1:1<I.length→(I.getD 0 0).toNat≠48) (hF:∀x∈F,nR x) (hF0:pt=true→F ≠ []) (hF1:pt=false→F = [])
    (hX:(X = []∧ev=0)∨∃b Y,X=b::Y∧(b=101∨b=69)∧∀f:Int→Bool→ak→Option R,bg Y f=f ev true []) (hev : -1000000≤ev∧ev≤1000000)
    (hlen:((if neg then [45]else [])++(I++((if pt then 46::F else [])++X))).length≤400)
    (ZT:(cM (bC (I++F) [48]) [48]).length≤18) (k:iH→Bool→Option R) :
    dL ((if neg then [45]else [])++(I++((if pt then 46::F else [])++X))) k =
      bG (if neg then IntKind.i64.wrap (0 - dZ (48::cM (bC (I++F) [48]) [48]))else dZ (48::cM (bC (I++F) [48]) [48])) (-(F.length:Int)+ev+(((bC (I++F) [48]).length:Int) - ((cM (bC (I++F) [48]) [48]).length:Int))) k:=by
  generalize hS:(if neg then [45]else [])++(I++((if pt then 46::F else [])++X))=s at *
  have e:dL s k=oo bG aP aL bg s k:=rfl
  rw[e]
  unfold oo
  -- the pieces
  obtain ⟨i0,It,hIe⟩:∃b t,I=b::t:=by cases I with|nil=>exact (hI0 rfl).elim|cons b t=>exact ⟨b,t,rfl⟩
  have hi0:=hI i0 (by rw[hIe]; simp)
  have hXh:∀b t,X=b::t→¬nR b∧b.toNat≠46:=by
    intro b t hb
    rcases hX with ⟨rfl,_⟩|⟨c,Y,rfl,hc,_⟩
    · cases hb
    · cases hb
      rcases hc with rfl|rfl <;> exact ⟨by unfold nR; decide,by decide⟩
  have hs1:pV [45] s=(if neg then 45 else 0,I++((if pt then 46::F else [])++X)):=by
    rw[←hS]
    cases neg with
    | true=>rfl
    | false =>
      rw[hIe]
      have:([45]:ak).contains i0=false:=by
        have:i0≠45:=by rintro rfl; exact absurd hi0.1 (by decide)
        simp[this]
      simp only[Bool.false_eq_true,if_false,List.nil_append,List.cons_append,pV,this]
  have Zd:s.length≤400:=hlen
  have Db:s.length=(if neg then 1 else 0)+(I.length+((if pt then F.length+1 else 0)+X.length)):=by
    rw[←hS]
    cases neg <;> cases pt <;> simp <;> omega
  have hFl:F.length≤400:=by
    cases pt with
    | true=>simp at Db; omega
    | false=>rw[hF1 rfl]; simp
  have hIl:I.length≤400:=by omega
  have hXl:X.length≤400:=by omega
  rw[AN _ _ (by omega),hs1]
  simp only
  have hPh:∀b t,(if pt then 46::F else [])++X=b::t→¬nR b:=by
    intro b t hb
    cases pt with
    | true=>simp at hb; rw[←hb.1]; unfold nR; decide
    | false=>exact (hXh b t (by simpa using hb)).1
  have SD:(I++((if pt then 46::F else [])++X)).length≤4000000000:=by
    have:(I++((if pt then 46::F else [])++X)).length=I.length+((if pt then F.length+1 else 0)+X.length):=by cases pt <;> simp <;> omega
    omega
  rw[Je I _ hI hPh SD]
  have lp:(I==([]:ak))=false:=by rw[beq_eq_false_iff_ne]; exact hI0
  rw[jB (show ¬(s.length:Int)>400 by omega),cond_false,lp,cond_false]
  have q48:(((I.getD 0 0).toNat:Int)==48)=decide ((I.getD 0 0).toNat=48):=eqI _ 48
  -- the rest, behind the first test
  have drop1:∀x:Option R,(bif (decide ((I.length:Int)>1))then (cR (decide ((0:Int)<I.length)) (bif (((I.getD 0 0).toNat:Int)==48)then (k ⟨0,0⟩ false)else x))else x)=x:=by
    intro x
    by_cases h:1<I.length
    · rw[cu (show (I.length:Int)>1 by omega),cond_true,bH (cu (by omega)),q48,jB (hI1 h),cond_false]
    · rw[jB (show ¬(I.length:Int)>1 by omega),cond_false]
  rw[drop1]
  generalize hA:I++F=all at *
  have zo:all.length≤800:=by rw[←hA,List.length_append]; omega
  have htl:(bC all [48]).length≤all.length:=Fp _ _
  have lone:([48]:ak).length=1:=rfl
  have hc:(([48]:ak)++(cM (bC all ([48]:ak)) ([48]:ak)))=48::cM (bC all [48]) [48]:=rfl
  have hbe:((([]:ak)==([]:ak)))=true:=rfl
  have UX:decide ((48::cM (bC all [48]) [48]:ak).length≤281474976710656)=true:=cu (by simp only[List.length_cons]; omega)
  have w0:IntKind.i64.wrap (((bC all [48]).length:Int) - ((cM (bC all [48]) [48]).length:Int))=((bC all [48]).length:Int) - ((cM (bC all [48]) [48]).length:Int):=ef (by omega) (by omega)
  have q1:decide (1+(cM (bC all [48]) [48]).length≤9223372036854775807)=true:=cu (by omega)
  have q2:decide (((cM (bC all [48]) [48]).length:Int)>18)=false:=jB (by omega)
  have q3:(wu ([48]:ak)&&decide (([48]:ak).length<4294967281))=true:=rfl
  have qn:(((if neg then 45 else 0:Nat):Int) != 0)=neg:=by cases neg <;> rfl
  have sX:pV [101,69] X=match X with | []=>(0, [])|b::Y=>(b.toNat,Y):=by
    rcases hX with ⟨rfl,_⟩|⟨b,Y,rfl,hb,_⟩
    · rfl
    · rcases hb with rfl|rfl <;> rfl
  cases pt with
  | false =>
    have hFe:=hF1 rfl
    subst hFe
    rw[List.append_nil]at hA
    subst hA
    have s46:pV [46] X=(0,X):=by
      rcases hX with ⟨rfl,_⟩|⟨b,Y,rfl,hb,_⟩
      · rfl
      · rcases hb with rfl|rfl <;> rfl
    simp only[Bool.false_eq_true,if_false,List.nil_append]
    rw[AN _ _ (by omega),s46]
    have z0:(((0:Nat):Int) != 0)=false:=rfl
    simp only[z0,cond_false]
    rw[AN _ _ (by omega),sX]
    rcases hX with ⟨rfl,rfl⟩|⟨b,Y,rfl,hb,hE⟩
    · simp only[z0,cond_false,q3,bH rfl,hbe,Bool.not_true,q2,q1,hc,UX,Bool.cond_self,w0,qn]
      rw[ef (n:=0+(((bC I [48]).length:Int) - ((cM (bC I [48]) [48]).length:Int))) (by omega) (by omega)]
      have e0 : -((([]:ak).length:Nat):Int)+0=0:=rfl
      rw[e0]
      cases neg <;> rfl
    · have zb:((b.toNat:Int) != 0)=true:=by rcases hb with rfl|rfl <;> rfl
      simp only[zb,cond_true,hE,Bool.not_true,cond_false,q3,bH rfl,hbe,q2,q1,hc,UX,Bool.cond_self,w0,qn]
      rw[ef (n:=0+ev) (by omega) (by omega),ef (n:=0+ev+(((bC I [48]).length:Int) - ((cM (bC I [48]) [48]).length:Int))) (by omega) (by omega)]
      have e0 : -((([]:ak).length:Nat):Int)+ev=0+ev:=rfl
      rw[e0]
      cases neg <;> rfl
  | true =>
    have hFe:=hF0 rfl
    simp only[if_true,List.cons_append,List.nil_append]
    have s46:pV [46] (46::(F++X))=(46,F++X):=rfl
    have lFX:(F++X).length=F.length+X.length:=List.length_append
    rw[AN _ _ (by simp only[List.length_cons]; omega),s46]
    have z46:(((46:Nat):Int) != 0)=true:=rfl
    have z0:(((0:Nat):Int) != 0)=false:=rfl
    simp only[z46,cond_true]
    rw[Je F X hF (fun b t hb=>(hXh b t hb).1) (by omega)]
    have hFn:(F==([]:ak))=false:=by rw[beq_eq_false_iff_ne]; exact hFe
    rw[hFn,cond_false,bH (cu (by omega)),hA,ef (n:=0 - (F.length:Int)) (by omega) (by omega)]
    rw[AN _ _ (by omega),sX]
    rcases hX with ⟨rfl,rfl⟩|⟨b,Y,rfl,hb,hE⟩
    · simp only[z0,cond_false,q3,bH rfl,hbe,Bool.not_true,q2,q1,hc,UX,Bool.cond_self,w0,qn]
      rw[ef (n:=0 - (F.length:Int)+(((bC all [48]).length:Int) - ((cM (bC all [48]) [48]).length:Int))) (by omega) (by omega)]
      have e0 : -(F.length:Int)+0=0 - (F.length:Int):=by omega
      rw[e0]
      cases neg <;> rfl
    · have zb:((b.toNat:Int) != 0)=true:=by rcases hb with rfl|rfl <;> rfl
      simp only[zb,cond_true,hE,Bool.not_true,cond_false,q3,bH rfl,hbe,q2,q1,hc,UX,Bool.cond_self,w0,qn]
      rw[ef (n:=0 - (F.length:Int)+ev) (by omega) (by omega),ef (n:=0 - (F.length:Int)+ev+(((bC all [48]).length:Int) - ((cM (bC all [48]) [48]).length:Int))) (by omega) (by omega)]
      have e0 : -(F.length:Int)+ev=0 - (F.length:Int)+ev:=by omega
      rw[e0]
      cases neg <;> rfl

theorem Qx:∀(l r:ak) (acc v:Nat),parseUint10 acc l = .ok v→parseUint10 acc (l++r)=parseUint10 v r
  | [],r,acc,v,h=>by
    simp only[parseUint10]at h
    injection h with h
    subst h
    rfl
  | c::l,r,acc,v,h=>by
    simp only[parseUint10,List.cons_append]at h ⊢
    split at h
    · rename_i h1
      rw[if_pos h1]
      split at h
      · cases h
      · rename_i h2
        rw[if_neg h2]
        split at h
        · cases h
        · rename_i h3
          rw[if_neg h3]
          exact Qx l r _ v h
    · cases h

theorem X1 (u:Nat) (hu:u<1000000000000000000):parseUint10 0 (decDigits u) = .ok u:=by
  induction u using Nat.strongRecOn with
  | _ u ih =>
    by_cases h:u<10
    · rw[decDigits,dif_pos h]
      simp only[parseUint10,gR (48+u) (by omega)]
      rw[if_pos (by omega),if_neg (by omega),if_neg (by omega)]
      congr 1
      omega
    · rw[decDigits,dif_neg h,Qx _ _ _ _ (ih (u / 10) (by omega) (by omega))]
      simp only[parseUint10,gR (48+u % 10) (by omega)]
      rw[if_pos (by omega),if_neg (by omega),if_neg (by omega)]
      congr 1
      omega

theorem X2 (u:Nat) (hu:u<1000000000000000000):dZ (48::decDigits u)=(u:Int):=by
  have h1:parseMag (48::decDigits u) = .ok u:=by
    unfold parseMag
    rw[if_neg (by simp)]
    have:=X1 u hu
    simp only[parseUint10]
    exact this
  have h2:atoiAll (48::decDigits u) = .ok (u:Int):=by
    unfold atoiAll
    simp only
    have e:(if (48:UInt8).toNat=43∨(48:UInt8).toNat=45 then decDigits u else 48::decDigits u)=48::decDigits u:=if_neg (by decide)
    rw[e,h1]
    simp only
    rw[if_neg (by omega),if_neg (fun h=>absurd h.1 (by decide)),if_neg (by decide)]
  unfold dZ
  rw[h2]

theorem Zz (n:Nat) (r:ak) (hr:∀b t,r=b::t→b≠48):bC (jK n++r) [48]=r:=by
  unfold bC
  rw[Fq _ _ _ (fun x hx=>by have:=List.eq_of_mem_replicate hx; subst this; rfl)]
  exact GS _ _ fun b t hb=>by simp[hr b t hb]

theorem ZA (l:ak) (n:Nat) (b:UInt8) (hb:b≠48):cM (l ++ [b]++jK n) [48]=l ++ [b]:=by
  unfold cM
  rw[List.reverse_append,List.reverse_append]
  have e:(jK n).reverse=jK n:=List.reverse_replicate
  rw[e,Fq _ _ _ (fun x hx=>by have:=List.eq_of_mem_replicate hx; subst this; rfl)]
  have:List.dropWhile (fun x=>([48]:ak).contains x) (([b]:ak).reverse++l.reverse) = [b]++l.reverse:=GS _ _ fun c t hc=>by
    have:b=c:=by
      have:=congrArg List.head? hc
      simpa using this
    subst this
    simp[hb]
  rw[this,List.reverse_append,List.reverse_reverse]
  rfl

theorem trims {u:Nat} (hu:u % 10≠0) (a b:Nat):bC (jK a++(decDigits u++jK b)) [48]=decDigits u++jK b∧cM (decDigits u++jK b) [48]=decDigits u:=by
  obtain ⟨x,t,e,hx⟩:=NM u (by omega)
  obtain ⟨l,hl⟩:=XW u
  constructor
  · apply Zz
    intro c t' hc
    rw[e]at hc
    have:x=c:=by
      have:=congrArg List.head? hc
      simpa using this
    subst this
    rintro rfl
    exact hx rfl
  · rw[hl]
    apply ZA
    intro h
    have:=congrArg UInt8.toNat h
    rw[gR _ (by omega)]at this
    have e48:(48:UInt8).toNat=48:=rfl
    omega

theorem Jf (d:iH) (hd:Fm d) (h0:d.aw≠0):∃(I F:ak) (pt:Bool) (a b:Nat),MV d=(if decide (d.aw<0)then [45]else [])++(I++(if pt then 46::F else [])) ∧
    I++F=jK a++(decDigits d.aw.natAbs++jK b)∧I ≠ []∧(1<I.length→(I.getD 0 0).toNat≠48)∧(pt=true→F ≠ [])∧(pt=false→F = [])∧(F.length:Int)=(b:Int) - d.exp∧I.length+F.length≤40∧(∀x∈I,nR x)∧(∀x∈F,nR x):=by
  have bd:=hd.bounds
  have zo:=Zy d.aw.natAbs
  have hlen:(decDigits d.aw.natAbs).length≤16:=by rw[decDigits_length]; exact LS (by omega)
  have Iu:1≤(decDigits d.aw.natAbs).length:=by rw[decDigits_length]; exact nDigits_pos _
  obtain ⟨x0,t0,Sm,hx0⟩:=NM d.aw.natAbs (by omega)
  have hsg:(if d.aw<0 then ([45]:ak)else [])=if decide (d.aw<0)then [45]else []:=by by_cases h:d.aw<0 <;> simp[h]
  unfold MV
  rw[hsg]
  generalize decDigits d.aw.natAbs=L at *
  by_cases he:0≤d.exp
  · refine ⟨L++jK d.exp.toNat, [],false,0,d.exp.toNat,?_,by simp[jK],?_,fun _ => ?_,by simp,by simp,by simp; omega,?_,?_,by simp⟩
    · unfold body; rw[if_pos he]; simp
    · rw[Sm]; simp
    · rw[Sm]; exact hx0
    · rw[List.length_append,pT,List.length_nil]; omega
    · intro x hx
      rcases List.mem_append.1 hx with hx|hx
      · exact zo x hx
      · have:=List.eq_of_mem_replicate hx
        subst this; unfold nR; decide
  · have hz:∃z:Nat,(max 0 (1 - d.exp - (L.length:Int))).toNat=z:=⟨_,rfl⟩
    obtain ⟨z,hz⟩:=hz
    have tl:(jK z++L).length=z+L.length:=by rw[List.length_append,pT]
    have Pf:(((jK z++L).length:Int)+d.exp).toNat=(jK z++L).length - d.exp.natAbs:=by omega
    have h1:d.exp.natAbs+1≤(jK z++L).length:=by omega
    have tdig:∀x∈jK z++L,nR x:=by
      intro x hx
      rcases List.mem_append.1 hx with hx|hx
      · have:=List.eq_of_mem_replicate hx
        subst this; unfold nR; decide
      · exact zo x hx
    have tfirst:z=0→((jK z++L).getD 0 0).toNat≠48:=by
      rintro rfl
      rw[Sm]
      exact hx0
    refine ⟨(jK z++L).take ((jK z++L).length - d.exp.natAbs),(jK z++L).drop ((jK z++L).length - d.exp.natAbs),true,z,0,?_,?_,?_,?_,fun _ => ?_,(fun h=>by cases h),?_,?_,?_,?_⟩
    · unfold body
      rw[if_neg he]
      simp only[hz,Pf,if_true]
      simp
    · rw[List.take_append_drop]; simp[jK]
    · intro e
      have:=congrArg List.length e
      rw[List.length_take,List.length_nil]at this
      omega
    · intro hI
      rw[List.length_take]at hI
      have e:((jK z++L).take ((jK z++L).length - d.exp.natAbs)).getD 0 0=(jK z++L).getD 0 0:=by
        have:=(Ql (s:=(jK z++L).take ((jK z++L).length - d.exp.natAbs)) (t:=(jK z++L).drop ((jK z++L).length - d.exp.natAbs)) (i:=0) (by rw[List.length_take]; omega)).symm
        rw[List.take_append_drop]at this
        exact this
      rw[e]
      exact tfirst (by omega)
    · intro e
      have:=congrArg List.length e
      rw[List.length_drop,List.length_nil]at this
      omega
    · rw[List.length_drop]; omega
    · rw[List.length_take,List.length_drop]; omega
    · intro x hx; exact tdig x (List.mem_of_mem_take hx)
    · intro x hx; exact tdig x (List.mem_of_mem_drop hx)

theorem Sn {R:Type} (k:iH→Bool→Option R):dL [48] k=k ⟨0,0⟩ true:=by kernel_rfl
theorem L0:MV ⟨0,0⟩ = [48]:=by
  show []++body (decDigits 0) 0 = [48]
  rw[decDigits_one (by omega)]
  rfl

theorem UY {R:Type} {d:iH} (hd:Fm d) (h0:d.aw≠0) (X:ak) (ev:Int) (hX:(X = []∧ev=0)∨∃b Y,X=b::Y∧(b=101∨b=69)∧∀f:Int→Bool→ak→Option R,bg Y f=f ev true [])
    (hev : -1000000≤ev∧ev≤1000000) (hXl:X.length≤100) (k:iH→Bool→Option R):dL (MV d++X) k=bG d.aw (d.exp+ev) k:=by
  have bd:=hd.bounds
  obtain ⟨I,F,pt,a,b,e1,e2,i0,i1,f0,f1,fl,il,iD,fD⟩:=Jf d hd h0
  obtain ⟨t1,t2⟩:=trims (u:=d.aw.natAbs) (XX (hd.nz h0)) a b
  have hlen:(decDigits d.aw.natAbs).length≤16:=by rw[decDigits_length]; exact LS (by omega)
  have key:=X0 (R:=R) (decide (d.aw<0)) I F X pt ev iD i0 i1 fD f0 f1 hX hev (by
    cases VI:decide (d.aw<0) <;> cases pt <;> simp <;> omega) (by rw[e2,t1,t2]; omega) k
  have e3:MV d++X=(if decide (d.aw<0)then [45]else [])++(I++((if pt then 46::F else [])++X)):=by rw[e1]; simp only[List.append_assoc]
  rw[e3,key,e2,t1,t2,X2 _ (by omega)]
  have e4:(if decide (d.aw<0)=true then IntKind.i64.wrap (0 - (d.aw.natAbs:Int))else (d.aw.natAbs:Int))=d.aw:=by
    by_cases h:d.aw<0
    · rw[if_pos (by rw[cu h]),ef (by omega) (by omega)]; omega
    · rw[if_neg (by rw[jB h]; simp)]; omega
  have e5 : -(F.length:Int)+ev+(((decDigits d.aw.natAbs++jK b).length:Int) - ((decDigits d.aw.natAbs).length:Int))=d.exp+ev:=by
    rw[List.length_append,pT]
    omega
  rw[e4,e5]

theorem UZ {R:Type} {d:iH} (hd:Fm d) (h0:d.aw≠0) (k:iH→Bool→Option R):bG d.aw d.exp k=k d true:=by
  have bd:=hd.bounds
  obtain ⟨r,hr,hm⟩:=Xz (R:=R) d.aw d.exp (by unfold CK; omega) (by omega) (by omega)
  have e5:d.aw=d.aw*10 ^ 0:=by simp
  rw[e5]at hr
  rw[hm,UP hd h0 (j:=0) (x:=d.exp) (by omega) hr]



abbrev isD (b:UInt8):Bool:=XY.contains b
theorem X3 (b:UInt8):isD b=decide (48≤b.toNat∧b.toNat≤57):=O2 b
abbrev takeD (s:ak):ak:=s.takeWhile isD
abbrev E1 (s:ak):ak:=s.dropWhile isD

theorem H7 (s:ak):∀x∈takeD s,nR x:=fun x hx=>by
  have h:=List.all_takeWhile (l:=s) (p:=isD)
  have:=List.all_eq_true.1 h x hx
  rw[X3]at this
  exact of_decide_eq_true (p:=48≤x.toNat∧x.toNat≤57) this
theorem X4 (s:ak):∀b t,E1 s=b::t→¬nR b:=fun b t h hb=>by
  have h2:isD b=false:=by
    have:=List.head?_dropWhile_not isD s
    have e:s.dropWhile isD=b::t:=h
    rw[e]at this
    simpa using this
  rw[X3,cu (p:=48≤b.toNat∧b.toNat≤57) hb]at h2
  cases h2
theorem O3 (s:ak):(takeD s).length≤s.length:=by
  have:=congrArg List.length (List.takeWhile_append_dropWhile (p:=isD) (l:=s))
  rw[List.length_append]at this
  unfold takeD
  omega
theorem Qy (s:ak):(E1 s).length≤s.length:=Fp _ _
theorem GU {R:Type} (s:ak) (hl:s.length≤4000000000) (k:ak→ak→Option R):aL s k=k (takeD s) (E1 s):=by
  have e:takeD s++E1 s=s:=List.takeWhile_append_dropWhile
  have h:=Je (R:=R) (takeD s) (E1 s) (H7 s) (X4 s) (by rw[e]; exact hl) k
  rw[e]at h
  exact h
theorem H8 (g s:ak):(pV g s).2.length≤s.length:=by
  unfold pV
  cases s with
  | nil=>simp
  | cons b t=>simp only; split <;> simp

def rj:ak→Nat→Nat
  | [],v=>v
  | b::s,v=>rj s (10*v+(b.toNat - 48))
theorem Qz:∀(a b:ak) (v:Nat),rj (a++b) v=rj b (rj a v)
  | [],_,_=>rfl
  | x::a,b,v=>Qz a b _
theorem O4:∀(s:ak) (v:Nat),v*10 ^ s.length≤rj s v
  | [],v=>by simp[rj]
  | b::s,v=>by
    have:=O4 s (10*v+(b.toNat - 48))
    have h2:10*v*10 ^ s.length≤(10*v+(b.toNat - 48))*10 ^ s.length:=Nat.mul_le_mul_right _ (by omega)
    have e:v*10 ^ (b::s).length=10*v*10 ^ s.length:=by rw[List.length_cons,Nat.pow_succ,Nat.mul_comm 10,Nat.mul_assoc,Nat.mul_comm 10]
    simp only[rj]
    omega
theorem U0 (s:ak) (v:Nat):v≤rj s v:=Nat.le_trans (Nat.le_mul_of_pos_right _ (Nat.pos_of_ne_zero (by simp))) (O4 s v)
theorem Tk:∀(s:ak) (v:Nat),(∀x∈s,nR x)→rj s v<(v+1)*10 ^ s.length
  | [],v,_=>by simp[rj]
  | b::s,v,h=>by
    have hb:=h b (by simp)
    unfold nR at hb
    have:=Tk s (10*v+(b.toNat - 48)) fun x hx=>h x (by simp[hx])
    have h2:(10*v+(b.toNat - 48)+1)*10 ^ s.length≤((v+1)*10)*10 ^ s.length:=Nat.mul_le_mul_right _ (by omega)
    have e:(v+1)*10 ^ (b::s).length=((v+1)*10)*10 ^ s.length:=by rw[List.length_cons,Nat.pow_succ,Nat.mul_assoc,Nat.mul_comm 10]
    simp only[rj]
    omega

theorem QA:∀(D:ak) (acc:Nat),(∀x∈D,nR x) →
    (rj D acc<18446744073709551616→parseUint10 acc D = .ok (rj D acc))∧(acc<18446744073709551616→18446744073709551616≤rj D acc→parseUint10 acc D = .range)
  | [],acc,_=>⟨fun _=>rfl,fun h1 h2=>by simp only[rj]at h2; omega⟩
  | b::D,acc,h=>by
    have hb:=h b (by simp)
    unfold nR at hb
    obtain ⟨i1,i2⟩:=QA D (10*acc+(b.toNat - 48)) fun x hx=>h x (by simp[hx])
    have hs:=U0 D (10*acc+(b.toNat - 48))
    have e:acc*10+(b.toNat - 48)=10*acc+(b.toNat - 48):=by omega
    simp only[rj,parseUint10]
    rw[if_pos hb,e]
    refine ⟨fun h1 => ?_,fun h1 h2 => ?_⟩
    · rw[if_neg (by omega),if_neg (by omega)]
      exact i1 h1
    · by_cases g1:1844674407370955162≤acc
      · rw[if_pos g1]
      · rw[if_neg g1]
        by_cases g2:18446744073709551616≤10*acc+(b.toNat - 48)
        · rw[if_pos g2]
        · rw[if_neg g2]
          exact i2 (by omega) h2

theorem QB (D:ak) (hD:∀x∈D,nR x) (h0:D ≠ []) :
    (rj D 0<9223372036854775808→atoiAll D = .ok (rj D 0:Int))∧(9223372036854775808≤rj D 0→atoiAll D = .range):=by
  obtain ⟨i1,i2⟩:=QA D 0 hD
  cases D with
  | nil=>exact (h0 rfl).elim
  | cons b D =>
    have hb:=hD b (by simp)
    unfold nR at hb
    have e:(if b.toNat=43∨b.toNat=45 then D else b::D)=b::D:=if_neg (by omega)
    have m:parseMag (b::D)=parseUint10 0 (b::D):=by unfold parseMag; rw[if_neg (by simp)]
    unfold atoiAll
    simp only
    rw[e,m]
    refine ⟨fun h => ?_,fun h => ?_⟩
    · rw[i1 (by omega)]
      simp only
      rw[if_neg (by omega),if_neg (fun h2=>absurd h2.1 (by omega)),if_neg (by omega)]
    · by_cases h2:rj (b::D) 0<18446744073709551616
      · rw[i1 h2]
        simp only
        rw[if_pos ⟨by omega,h⟩]
      · rw[i2 (by omega) (by omega)]

def L1 (X:ak):Int × Bool × ak :=
  let q:=pV [43,45] X
  let v:Int:=min (rj (takeD q.2) 0:Int) 1000000
  (if q.1=45 then -v else v, !(takeD q.2 == []),E1 q.2)

theorem ZB {R:Type} (X:ak) (hl:X.length≤4000000000) (k:Int→Bool→ak→Option R):bg X k=k (L1 X).1 (L1 X).2.1 (L1 X).2.2:=by
  have e:bg X k=iX aP aL X k:=rfl
  rw[e]
  unfold iX
  have h1:=H8 [43,45] X
  rw[AN _ _ hl]
  unfold L1
  simp only
  generalize pV [43,45] X=q at *
  rw[GU _ (by omega)]
  have h2:=O3 q.2
  have hD:=H7 q.2
  generalize takeD q.2=D at *
  generalize E1 q.2=r at *
  have q45:((q.1:Int)==45)=decide (q.1=45):=eqI _ 45
  rw[bH (cu (by omega)),q45]
  by_cases h0:D = []
  · subst h0
    have a1:sj []=false:=rfl
    have a2:dZ []=0:=rfl
    rw[a1,a2]
    simp only[cond_false,rj]
    by_cases hq:q.1=45
    · rw[cu hq,if_pos hq]; rfl
    · rw[jB hq,if_neg hq]; rfl
  · have lp:(D==([]:ak))=false:=by rw[beq_eq_false_iff_ne]; exact h0
    obtain ⟨i1,i2⟩:=QB D hD h0
    rw[lp]
    simp only[Bool.not_false,cond_true]
    by_cases hv:rj D 0<9223372036854775808
    · have a1:sj D=true:=by unfold sj; rw[i1 hv]
      have a2:dZ D=(rj D 0:Int):=by unfold dZ; rw[i1 hv]
      rw[a1,a2,cond_true]
      by_cases hb:(rj D 0:Int)>1000000
      · rw[cu hb,cond_true,Int.min_eq_right (by omega)]
        by_cases hq:q.1=45
        · rw[cu hq,if_pos hq]; rfl
        · rw[jB hq,if_neg hq]; rfl
      · rw[jB hb,cond_false,Int.min_eq_left (by omega),ef (by omega) (by omega)]
        by_cases hq:q.1=45
        · rw[cu hq,if_pos hq,cond_true]; congr 1; omega
        · rw[jB hq,if_neg hq,cond_false]
    · have a1:sj D=false:=by unfold sj; rw[i2 (by omega)]
      rw[a1,cond_false,Int.min_eq_right (by omega)]
      by_cases hq:q.1=45
      · rw[cu hq,if_pos hq]; rfl
      · rw[jB hq,if_neg hq]; rfl

theorem So (a:ak):∀b t,bC a [48]=b::t→b≠48:=fun b t h hb=>by
  have h2:=List.head?_dropWhile_not (([48]:ak).contains ·) a
  have e:a.dropWhile (([48]:ak).contains ·)=b::t:=h
  rw[e]at h2
  subst hb
  exact absurd (show (([48]:ak).contains 48)=false from h2) (by decide)
theorem U1 (a:ak):∀x∈bC a [48],x∈a:=fun x hx=>(List.dropWhile_sublist _).subset hx
theorem QC (a:ak):cM a [48] = []∨∃l b,cM a [48]=l ++ [b]∧b≠48:=by
  unfold cM
  have h2:=List.head?_dropWhile_not (([48]:ak).contains ·) a.reverse
  cases h:a.reverse.dropWhile (([48]:ak).contains ·)with
  | nil=>exact .inl rfl
  | cons b t =>
    rw[h]at h2
    refine .inr ⟨t.reverse,b,by simp,fun hb => ?_⟩
    subst hb
    exact absurd (show (([48]:ak).contains 48)=false from h2) (by decide)
theorem NN (a:ak):∃n,a=cM a [48]++jK n:=by
  have h:=List.takeWhile_append_dropWhile (p:=(([48]:ak).contains ·)) (l:=a.reverse)
  have h2:=congrArg List.reverse h
  rw[List.reverse_append,List.reverse_reverse]at h2
  refine ⟨(a.reverse.takeWhile (([48]:ak).contains ·)).length,?_⟩
  have hz:(a.reverse.takeWhile (([48]:ak).contains ·)).reverse=jK (a.reverse.takeWhile (([48]:ak).contains ·)).length:=by
    unfold jK
    rw[List.eq_replicate_iff]
    refine ⟨List.length_reverse,fun x hx => ?_⟩
    have h3:=List.all_takeWhile (l:=a.reverse) (p:=(([48]:ak).contains ·))
    have:=List.all_eq_true.1 h3 x (List.mem_reverse.1 hx)
    simpa using this
  rw[←hz]
  exact h2.symm

def X5 (neg:Bool) (all:ak) (x:Int):iH × Bool :=
  if cM (bC all [48]) [48] = []then (⟨0,0⟩,true)
  else UO (if neg then -(rj (cM (bC all [48]) [48]) 0:Int)else (rj (cM (bC all [48]) [48]) 0:Int)) (x+(((bC all [48]).length:Int) - ((cM (bC all [48]) [48]).length:Int)))

theorem X6 {R:Type} (m x:Int) (k:iH→Bool→Option R):bG m x k=bG m (min x 1000000) k:=by
  have e:∀x,bG m x k=nQ aU bt m x k:=fun _=>rfl
  rw[e,e]
  unfold nQ
  have:min (min x 1000000) 1000000=min x 1000000:=by omega
  rw[this]
theorem ZC (u x:Int):UO u (min x 1000000)=UO u x:=by
  unfold UO
  by_cases h:x≤1000000
  · rw[Int.min_eq_left h]
  · rw[if_neg (by omega),if_neg (by omega)]
theorem NO {R:Type} (u x:Int) (hu:Int.tmod u 10≠0) (hb:CK u) (hx : -9223372036854775808≤x) (k:iH→Bool→Option R):bG u x k=k (UO u x).1 (UO u x).2:=by
  rw[X6,←ZC u x]
  have:=Te (R:=R) u 0 (min x 1000000) hu (by simpa using hb) (by omega) (by omega) k
  simpa using this

theorem QD (all:ak) (h:∀x∈all,nR x) (h0:cM (bC all [48]) [48] ≠ []) :
    (∀x∈cM (bC all [48]) [48],nR x)∧rj (cM (bC all [48]) [48]) 0 % 10≠0∧10 ^ ((cM (bC all [48]) [48]).length - 1)≤rj (cM (bC all [48]) [48]) 0:=by
  obtain ⟨n,hn⟩:=NN (bC all [48])
  have hd:∀x∈cM (bC all [48]) [48],nR x:=fun x hx=>h x (U1 _ _ (by rw[hn]; simp[hx]))
  refine ⟨hd,?_,?_⟩
  · rcases QC (bC all [48])with e|⟨l,b,e,hb⟩
    · exact (h0 e).elim
    · have hbd:=hd b (by rw[e]; simp)
      rw[e,Qz]
      simp only[rj]
      unfold nR at hbd
      have:b.toNat≠48:=fun h=>hb (UInt8.toNat_inj.1 h)
      omega
  · cases e:cM (bC all [48]) [48]with
    | nil=>exact (h0 e).elim
    | cons b t =>
      have hb:b≠48:=So all b (t++jK n) (by rw[hn,e]; rfl)
      have hbd:=hd b (by rw[e]; simp)
      unfold nR at hbd
      have h48:b.toNat≠48:=fun h=>hb (UInt8.toNat_inj.1 h)
      have:=O4 t (10*0+(b.toNat - 48))
      have h2:1*10 ^ t.length≤(10*0+(b.toNat - 48))*10 ^ t.length:=Nat.mul_le_mul_right _ (by omega)
      simp only[rj,List.length_cons,Nat.add_sub_cancel]
      omega

theorem ZD {u:Int} (x:Int) (h:1000000000000000<u.natAbs):UO u x=(⟨0,0⟩,false):=by
  unfold UO
  rw[if_neg (by omega)]

theorem X7 {R:Type} (y2:Int) (vn:ak) (Pg:Int) (z20:ak) (h:∀x∈vn,nR x) (hl:vn.length≤1000) (hx : -2000000≤Pg∧Pg≤2000000) (k0:iH→Bool→Option R) :
    (cR (wu ([48]:ak)&&decide (([48]:ak).length<4294967281)) (cR (wu ([48]:ak)&&decide (([48]:ak).length<4294967281)) (bif (!(z20==([]:ak)))then (k0 (⟨0,0⟩:iH) false)else (bif (decide (((cM (bC vn ([48]:ak)) ([48]:ak)).length:Int)>(18:Int)))then (k0 (⟨0,0⟩:iH) false)else (cR (decide (1+(cM (bC vn ([48]:ak)) ([48]:ak)).length≤9223372036854775807)) (cR (decide ((([48]:ak)++(cM (bC vn ([48]:ak)) ([48]:ak))).length≤281474976710656)) (bif sj (([48]:ak)++(cM (bC vn ([48]:ak)) ([48]:ak)))then (bif (y2 != 0)then (bG (IntKind.i64.wrap (0 - (dZ (([48]:ak)++(cM (bC vn ([48]:ak)) ([48]:ak)))))) (IntKind.i64.wrap (Pg+(IntKind.i64.wrap (((bC vn ([48]:ak)).length:Int) - ((cM (bC vn ([48]:ak)) ([48]:ak)).length:Int))))) (fun JH JI=>k0 JH JI))else (bG (dZ (([48]:ak)++(cM (bC vn ([48]:ak)) ([48]:ak)))) (IntKind.i64.wrap (Pg+(IntKind.i64.wrap (((bC vn ([48]:ak)).length:Int) - ((cM (bC vn ([48]:ak)) ([48]:ak)).length:Int))))) (fun I3 Im=>k0 I3 Im)))else (bif (y2 != 0)then (bG (IntKind.i64.wrap (0 - (dZ (([48]:ak)++(cM (bC vn ([48]:ak)) ([48]:ak)))))) (IntKind.i64.wrap (Pg+(IntKind.i64.wrap (((bC vn ([48]:ak)).length:Int) - ((cM (bC vn ([48]:ak)) ([48]:ak)).length:Int))))) (fun JH JI=>k0 JH JI))else (bG (dZ (([48]:ak)++(cM (bC vn ([48]:ak)) ([48]:ak)))) (IntKind.i64.wrap (Pg+(IntKind.i64.wrap (((bC vn ([48]:ak)).length:Int) - ((cM (bC vn ([48]:ak)) ([48]:ak)).length:Int))))) (fun I3 Im=>k0 I3 Im)))))))))) =
    if z20 = []then k0 (X5 (y2 != 0) vn Pg).1 (X5 (y2 != 0) vn Pg).2 else k0 ⟨0,0⟩ false:=by
  have q3:(wu ([48]:ak)&&decide (([48]:ak).length<4294967281))=true:=rfl
  have htl:(bC vn [48]).length≤vn.length:=Fp _ _
  obtain ⟨n,hn⟩:=NN (bC vn [48])
  have htr:(bC vn [48]).length=(cM (bC vn [48]) [48]).length+n:=by have:=congrArg List.length hn; rw[List.length_append,pT]at this; exact this
  rw[q3,bH rfl,bH rfl]
  by_cases hz:z20 = []
  · subst hz
    have hbe:((([]:ak)==([]:ak)))=true:=rfl
    rw[hbe,if_pos rfl]
    simp only[Bool.not_true,cond_false]
    have w0:IntKind.i64.wrap (((bC vn [48]).length:Int) - ((cM (bC vn [48]) [48]).length:Int))=((bC vn [48]).length:Int) - ((cM (bC vn [48]) [48]).length:Int):=ef (by omega) (by omega)
    have w1:IntKind.i64.wrap (Pg+(((bC vn [48]).length:Int) - ((cM (bC vn [48]) [48]).length:Int)))=Pg+(((bC vn [48]).length:Int) - ((cM (bC vn [48]) [48]).length:Int)):=ef (by omega) (by omega)
    rw[w0,w1,bH (cu (by omega)),bH (cu (by simp only[List.length_append,List.length_cons,List.length_nil]; omega)),Bool.cond_self]
    unfold X5
    have hc:(([48]:ak)++(cM (bC vn ([48]:ak)) ([48]:ak)))=48::cM (bC vn [48]) [48]:=rfl
    rw[hc]
    by_cases h0:cM (bC vn [48]) [48] = []
    · rw[h0,if_pos rfl]
      have a0:dZ (48::([]:ak))=0:=by decide +kernel
      have a1:decide (((([]:ak)).length:Int)>18)=false:=rfl
      have a2:IntKind.i64.wrap (0 - 0)=0:=by decide
      rw[a0,a1,cond_false,a2,NI,Bool.cond_self]
    · rw[if_neg h0]
      obtain ⟨f1,f2,f3⟩:=QD vn h h0
      have hX : -3000000≤Pg+(((bC vn [48]).length:Int) - ((cM (bC vn [48]) [48]).length:Int)):=by omega
      generalize cM (bC vn [48]) [48]=sh at *
      generalize (Pg+(((bC vn [48]).length:Int) - (sh.length:Int)))=X at *
      have Iu:1≤sh.length:=by cases sh with|nil=>exact (h0 rfl).elim|cons _ _=>simp
      by_cases h18:sh.length≤18
      · rw[jB (show ¬(sh.length:Int)>18 by omega),cond_false]
        have ln:=Tk sh 0 f1
        have hp:(10:Nat) ^ sh.length≤10 ^ 18:=Nat.pow_le_pow_right (by omega) h18
        have e18:(10:Nat) ^ 18=1000000000000000000:=rfl
        have v48:rj (48::sh) 0=rj sh 0:=rfl
        have ha:dZ (48::sh)=(rj sh 0:Int):=by
          obtain ⟨i1,_⟩:=QB (48::sh) (fun x hx=>by rcases List.mem_cons.1 hx with rfl|hx; (unfold nR; decide); exact f1 x hx) (by simp)
          unfold dZ
          rw[i1 (by rw[v48]; omega),v48]
        rw[ha]
        have hm:Int.tmod (rj sh 0:Int) 10≠0:=by rw[Int.tmod_eq_emod_of_nonneg (by omega)]; omega
        cases hy:(y2 != 0)with
        | true =>
          rw[cond_true,if_pos rfl,ef (by omega) (by omega)]
          have e0:(0 - (rj sh 0:Int)) = -(rj sh 0:Int):=by omega
          rw[e0]
          exact NO _ _ (tmod_neg hm) (by unfold CK; omega) (by omega) _
        | false =>
          rw[cond_false,if_neg (by simp)]
          exact NO _ _ hm (by unfold CK; omega) (by omega) _
      · rw[cu (show (sh.length:Int)>18 by omega),cond_true]
        have hp:(10:Nat) ^ 18≤10 ^ (sh.length - 1):=Nat.pow_le_pow_right (by omega) (by omega)
        have e18:(10:Nat) ^ 18=1000000000000000000:=rfl
        rw[ZD _ (by split <;> omega)]
  · have hbe:(z20==([]:ak))=false:=by rw[beq_eq_false_iff_ne]; exact hz
    rw[hbe,if_neg hz]
    rfl

def noD:iH × Bool:=(⟨0,0⟩,false)
def tailD (neg:Bool) (all:ak) (x:Int) (X:ak):iH × Bool :=
  if (pV [101,69] X).1=0 then (if (pV [101,69] X).2 = []then X5 neg all x else noD)
  else if (L1 (pV [101,69] X).2).2.1=false then noD
  else if (L1 (pV [101,69] X).2).2.2 = []then X5 neg all (x+(L1 (pV [101,69] X).2).1)else noD

def Jg (s:ak):iH × Bool :=
  let q:=pV [45] s
  let I:=takeD q.2
  let r:=E1 q.2
  if 400<s.length then noD else if I = []then noD else if 1<I.length∧(I.getD 0 0).toNat=48 then noD
  else if (pV [46] r).1=0 then tailD (q.1 != 0) I 0 (pV [46] r).2
  else if takeD (pV [46] r).2 = []then noD
  else tailD (q.1 != 0) (I++takeD (pV [46] r).2) (-((takeD (pV [46] r).2).length:Int)) (E1 (pV [46] r).2)

theorem X8 (X:ak) : -1000000≤(L1 X).1∧(L1 X).1≤1000000:=by
  unfold L1
  simp only
  split <;> omega

theorem neN (n:Nat):(((n:Nat):Int) != 0)=(n != 0):=by
  cases n with
  | zero=>rfl
  | succ n=>rw[bne_iff_ne.2 (by omega),bne_iff_ne.2 (by omega)]

theorem QE {R:Type} (q:Nat) (all:ak) (x:Int) (X:ak) (ha:∀c∈all,nR c) (hl:all.length≤900) (h1 : -1000≤x) (h2:x≤0) (hX:X.length≤1000) (k:iH→Bool→Option R) :
    aP ([101,69]:ak) X (fun GK JG=>bif (GK != 0)then (bg JG (fun MR QY Mq=>bif (!QY)then (k (⟨0,0⟩:iH) false)else (cR (wu ([48]:ak)&&decide (([48]:ak).length<4294967281)) (cR (wu ([48]:ak)&&decide (([48]:ak).length<4294967281)) (bif (!(Mq==([]:ak)))then (k (⟨0,0⟩:iH) false)else (bif (decide (((cM (bC all ([48]:ak)) ([48]:ak)).length:Int)>(18:Int)))then (k (⟨0,0⟩:iH) false)else (cR (decide (1+(cM (bC all ([48]:ak)) ([48]:ak)).length≤9223372036854775807)) (cR (decide ((([48]:ak)++(cM (bC all ([48]:ak)) ([48]:ak))).length≤281474976710656)) (bif sj (([48]:ak)++(cM (bC all ([48]:ak)) ([48]:ak)))then (bif ((q:Int) != 0)then (bG (IntKind.i64.wrap (0 - (dZ (([48]:ak)++(cM (bC all ([48]:ak)) ([48]:ak)))))) (IntKind.i64.wrap ((IntKind.i64.wrap (x+MR))+(IntKind.i64.wrap (((bC all ([48]:ak)).length:Int) - ((cM (bC all ([48]:ak)) ([48]:ak)).length:Int))))) (fun JH JI=>k JH JI))else (bG (dZ (([48]:ak)++(cM (bC all ([48]:ak)) ([48]:ak)))) (IntKind.i64.wrap ((IntKind.i64.wrap (x+MR))+(IntKind.i64.wrap (((bC all ([48]:ak)).length:Int) - ((cM (bC all ([48]:ak)) ([48]:ak)).length:Int))))) (fun I3 Im=>k I3 Im)))else (bif ((q:Int) != 0)then (bG (IntKind.i64.wrap (0 - (dZ (([48]:ak)++(cM (bC all ([48]:ak)) ([48]:ak)))))) (IntKind.i64.wrap ((IntKind.i64.wrap (x+MR))+(IntKind.i64.wrap (((bC all ([48]:ak)).length:Int) - ((cM (bC all ([48]:ak)) ([48]:ak)).length:Int))))) (fun JH JI=>k JH JI))else (bG (dZ (([48]:ak)++(cM (bC all ([48]:ak)) ([48]:ak)))) (IntKind.i64.wrap ((IntKind.i64.wrap (x+MR))+(IntKind.i64.wrap (((bC all ([48]:ak)).length:Int) - ((cM (bC all ([48]:ak)) ([48]:ak)).length:Int))))) (fun I3 Im=>k I3 Im))))))))))))else (cR (wu ([48]:ak)&&decide (([48]:ak).length<4294967281)) (cR (wu ([48]:ak)&&decide (([48]:ak).length<4294967281)) (bif (!(JG==([]:ak)))then (k (⟨0,0⟩:iH) false)else (bif (decide (((cM (bC all ([48]:ak)) ([48]:ak)).length:Int)>(18:Int)))then (k (⟨0,0⟩:iH) false)else (cR (decide (1+(cM (bC all ([48]:ak)) ([48]:ak)).length≤9223372036854775807)) (cR (decide ((([48]:ak)++(cM (bC all ([48]:ak)) ([48]:ak))).length≤281474976710656)) (bif sj (([48]:ak)++(cM (bC all ([48]:ak)) ([48]:ak)))then (bif ((q:Int) != 0)then (bG (IntKind.i64.wrap (0 - (dZ (([48]:ak)++(cM (bC all ([48]:ak)) ([48]:ak)))))) (IntKind.i64.wrap (x+(IntKind.i64.wrap (((bC all ([48]:ak)).length:Int) - ((cM (bC all ([48]:ak)) ([48]:ak)).length:Int))))) (fun JH JI=>k JH JI))else (bG (dZ (([48]:ak)++(cM (bC all ([48]:ak)) ([48]:ak)))) (IntKind.i64.wrap (x+(IntKind.i64.wrap (((bC all ([48]:ak)).length:Int) - ((cM (bC all ([48]:ak)) ([48]:ak)).length:Int))))) (fun I3 Im=>k I3 Im)))else (bif ((q:Int) != 0)then (bG (IntKind.i64.wrap (0 - (dZ (([48]:ak)++(cM (bC all ([48]:ak)) ([48]:ak)))))) (IntKind.i64.wrap (x+(IntKind.i64.wrap (((bC all ([48]:ak)).length:Int) - ((cM (bC all ([48]:ak)) ([48]:ak)).length:Int))))) (fun JH JI=>k JH JI))else (bG (dZ (([48]:ak)++(cM (bC all ([48]:ak)) ([48]:ak)))) (IntKind.i64.wrap (x+(IntKind.i64.wrap (((bC all ([48]:ak)).length:Int) - ((cM (bC all ([48]:ak)) ([48]:ak)).length:Int))))) (fun I3 Im=>k I3 Im)))))))))))=k (tailD (q != 0) all x X).1 (tailD (q != 0) all x X).2:=by
  rw[AN _ _ (by omega)]
  unfold tailD
  have l5:=H8 [101,69] X
  generalize pV [101,69] X=g at *
  rw[neN]
  by_cases hg:g.1=0
  · rw[if_pos hg,hg]
    simp only[bne_self_eq_false,cond_false]
    rw[X7 _ _ _ _ ha (by omega) (by omega),neN]
    split <;> rfl
  · rw[if_neg hg,bne_iff_ne.2 hg,cond_true,ZB _ (by omega)]
    have T3:=X8 g.2
    generalize L1 g.2=z at *
    rw[ef (n:=x+z.1) (by omega) (by omega)]
    cases hz:z.2.1 with
    | false=>rfl
    | true =>
      rw[Bool.not_true,cond_false,X7 _ _ _ _ ha (by omega) (by omega),neN,if_neg (show ¬(true=false) by simp)]
      split <;> rfl

theorem U2 {R:Type} (s:ak) (hs:s.length≤4000000000) (k:iH→Bool→Option R):dL s k=k (Jg s).1 (Jg s).2:=by
  have e:dL s k=oo bG aP aL bg s k:=rfl
  rw[e]
  unfold oo
  have l1:=H8 [45] s
  rw[AN _ _ hs]
  unfold Jg
  simp only
  generalize pV [45] s=q at *
  rw[GU _ (by omega)]
  have l2:=O3 q.2
  have l3:=Qy q.2
  have dI:=H7 q.2
  generalize takeD q.2=I at *
  generalize E1 q.2=r at *
  by_cases h400:400<s.length
  · rw[cu (show (s.length:Int)>400 by omega),cond_true,if_pos h400]
    rfl
  rw[jB (show ¬(s.length:Int)>400 by omega),cond_false,if_neg h400]
  by_cases hI:I = []
  · subst hI
    rw[if_pos rfl]
    rfl
  have lp:(I==([]:ak))=false:=by rw[beq_eq_false_iff_ne]; exact hI
  rw[lp,cond_false,if_neg hI]
  have Iu:1≤I.length:=by cases I with|nil=>exact (hI rfl).elim|cons _ _=>simp
  have q48:(((I.getD 0 0).toNat:Int)==48)=decide ((I.getD 0 0).toNat=48):=eqI _ 48
  rw[bH (cu (show (0:Int)<I.length by omega)),q48]
  by_cases h48:1<I.length∧(I.getD 0 0).toNat=48
  · rw[if_pos h48,cu (show (I.length:Int)>1 by omega),cu h48.2]
    rfl
  rw[if_neg h48]
  have cut:∀x:Option R,(bif decide ((I.length:Int)>1)then (bif decide ((I.getD 0 0).toNat=48)then k ⟨0,0⟩ false else x)else x)=x:=fun x=>by
    by_cases h1:1<I.length
    · rw[cu (show (I.length:Int)>1 by omega),jB (fun h=>h48 ⟨h1,h⟩)]; rfl
    · rw[jB (show ¬(I.length:Int)>1 by omega)]; rfl
  rw[cut]
  rw[AN _ _ (by omega)]
  have l4:=H8 [46] r
  generalize pV [46] r=p at *
  rw[neN]
  by_cases hp:p.1=0
  · rw[if_pos hp,hp]
    simp only[bne_self_eq_false,cond_false]
    exact QE q.1 I 0 p.2 dI (by omega) (by omega) (by omega) (by omega) k
  · rw[if_neg hp,bne_iff_ne.2 hp,cond_true,GU _ (by omega)]
    have l5:=O3 p.2
    have l6:=Qy p.2
    have dF:=H7 p.2
    generalize takeD p.2=F at *
    generalize E1 p.2=Y at *
    by_cases hF:F = []
    · subst hF
      rw[if_pos rfl]
      rfl
    have lp:(F==([]:ak))=false:=by rw[beq_eq_false_iff_ne]; exact hF
    rw[lp,cond_false,if_neg hF,bH (cu (by omega)),ef (n:=0 - (F.length:Int)) (by omega) (by omega)]
    have e0:(0:Int) - (F.length:Int) = -(F.length:Int):=by omega
    rw[e0]
    exact QE q.1 (I++F) (-(F.length:Int)) Y (fun c hc=>(List.mem_append.1 hc).elim (dI c) (dF c)) (by rw[List.length_append]; omega) (by omega) (by omega) (by omega) k

def numS:ak := [48,49,50,51,52,53,54,55,56,57,43,45,46,101,69]
def letS:ak := [97,98,99,100,101,102,103,104,105,106,107,108,109,110,111,112,113,114,115,116,117,118,119,120,121,122]
def blaS:ak := [32,9,10,13]
def sigS:ak := [123,125,91,93,44,58]
def M3 (b:UInt8):Bool:=numS.contains b
def O5 (b:UInt8):Bool:=letS.contains b
def Sp (b:UInt8):Bool:=blaS.contains b
def QF (b:UInt8):Bool:=sigS.contains b
def xB:ak := [116,114,117,101]
def rq:ak := [102,97,108,115,101]
def xC:ak := [110,117,108,108]

def tokS (s:ak):Option (Token × ak) :=
  match s with
  | []=>none
  | c::t =>
    if c.toNat=45∨(48≤c.toNat∧c.toNat≤57)then
      (if (Jg (s.takeWhile M3)).2 then some (⟨3,s.takeWhile M3,(Jg (s.takeWhile M3)).1,0⟩,s.dropWhile M3)else none)
    else if c.toNat=34 then (match uqS s with|some (o,r)=>some (⟨2,o,⟨0,0⟩,0⟩,r)|none=>none)
    else if QF c then some (⟨1, [c],⟨0,0⟩,0⟩,t)
    else if s.takeWhile O5=xB∨s.takeWhile O5=rq∨s.takeWhile O5=xC then some (⟨4,s.takeWhile O5,⟨0,0⟩,0⟩,s.dropWhile O5)
    else none

def putT (t:Token) (n:Int):Token:=⟨t.kind,t.text,t.num,n⟩

abbrev vH:=ak × ak × Token
def v7:List vH→ak→ak
  | [],z=>z
  | x::l,z=>x.1++(x.2.1++v7 l z)
def okW:List vH→ak→Prop
  | [],_=>True
  | x::l,z=>(∀b∈x.1,Sp b=true)∧(∃c u,x.2.1=c::u∧Sp c=false)∧tokS (x.2.1++v7 l z)=some (x.2.2,v7 l z)∧okW l z
def tokW:Nat→List vH→List Token
  | _, [] => []
  | p,x::l=>putT x.2.2 ((p+x.1.length:Nat):Int)::tokW (p+x.1.length+x.2.1.length) l
def JJ (r:ak):Prop:=r = []∨∃b u,r=b::u∧M3 b=false∧O5 b=false
def Word (w:ak) (t:Token):Prop:=(∃c u,w=c::u∧Sp c=false)∧∀r,JJ r→tokS (w++r)=some (t,r)

theorem O6 {p:UInt8→Bool}:∀(w r:ak),(∀b∈w,p b=true)→(r = []∨∃b u,r=b::u∧p b=false)→(w++r).takeWhile p=w∧(w++r).dropWhile p=r
  | [],r,_,h=>by
    rcases h with rfl|⟨b,u,rfl,hb⟩
    · exact ⟨rfl,rfl⟩
    · exact ⟨by rw[List.nil_append,List.takeWhile_cons,hb]; rfl,by rw[List.nil_append,List.dropWhile_cons,hb]; rfl⟩
  | b::w,r,hw,h=>by
    have hb:=hw b (by simp)
    obtain ⟨h1,h2⟩:=O6 w r (fun x hx=>hw x (by simp[hx])) h
    exact ⟨by rw[List.cons_append,List.takeWhile_cons,hb,if_pos rfl,h1],by rw[List.cons_append,List.dropWhile_cons,hb,if_pos rfl,h2]⟩
theorem X9 {r:ak} (h:JJ r):r = []∨∃b u,r=b::u∧M3 b=false:=h.imp id fun ⟨b,u,e,h1,_⟩=>⟨b,u,e,h1⟩
theorem Ya {r:ak} (h:JJ r):r = []∨∃b u,r=b::u∧O5 b=false:=h.imp id fun ⟨b,u,e,_,h1⟩=>⟨b,u,e,h1⟩

theorem U3 (c:UInt8) (h:QF c=true):Word [c] ⟨1, [c],⟨0,0⟩,0⟩:=by
  have all:∀n:Fin 256,QF (UInt8.ofNat n.val)=true→Sp (UInt8.ofNat n.val)=false∧¬(n.val=45∨(48≤n.val∧n.val≤57))∧¬n.val=34:=by decide +kernel
  obtain ⟨h1,h2,h3⟩:=all ⟨c.toNat,UInt8.toNat_lt c⟩ (by simpa using h)
  refine ⟨⟨c, [],rfl,by simpa using h1⟩,fun r _ => ?_⟩
  show tokS (c::r)=_
  simp only[tokS]
  rw[if_neg h2,if_neg h3,if_pos h]

theorem Jh {w:ak} (h:w=xB∨w=rq∨w=xC):Word w ⟨4,w,⟨0,0⟩,0⟩:=by
  have hl:∀b∈w,O5 b=true:=by rcases h with rfl|rfl|rfl <;> decide
  have hc:∃c u,w=c::u∧Sp c=false∧¬(c.toNat=45∨(48≤c.toNat∧c.toNat≤57))∧¬c.toNat=34∧QF c=false:=by
    rcases h with rfl|rfl|rfl <;> exact ⟨_,_,rfl,by decide,by decide,by decide,by decide⟩
  obtain ⟨c,u,rfl,h1,h2,h3,h4⟩:=hc
  refine ⟨⟨c,u,rfl,h1⟩,fun r hr => ?_⟩
  obtain ⟨t1,t2⟩:=O6 (c::u) r hl (Ya hr)
  show tokS (c::(u++r))=_
  have e:(c::(u++r):ak)=(c::u)++r:=rfl
  simp only[tokS]
  rw[if_neg h2,if_neg h3,h4,if_neg (by simp),e,t1,t2,if_pos h]

theorem U4 {rs:List Nat} (hr:∀c∈rs,vr c):Word (qt rs) ⟨2,cL rs,⟨0,0⟩,0⟩:=by
  have e:qt rs=34::(H6 rs ++ [34]):=by unfold qt; simp
  refine ⟨⟨34,_,e,by decide⟩,fun r _ => ?_⟩
  have hu:=XV rs hr r
  have e2:qt rs++r=34::(H6 rs ++ [34]++r):=by rw[e]; rfl
  rw[e2]at hu ⊢
  simp only[tokS]
  rw[if_neg (by decide),if_pos (by decide),hu]

theorem Sq {d:iH} (hd:Fm d):Jg (MV d)=(d,true):=by
  have key:∀k:iH→Bool→Option (iH × Bool),dL (MV d) k=k d true:=fun k=>by
    by_cases h0:d.aw=0
    · rw[hd.zero h0,L0,Sn]
    · have:=UY hd h0 [] 0 (.inl ⟨rfl,rfl⟩) (by omega) (by simp) k
      rw[List.append_nil,Int.add_zero,UZ hd h0]at this
      exact this
  have hl:(MV d).length≤4000000000:=by
    by_cases h0:d.aw=0
    · rw[hd.zero h0,L0]; simp
    · obtain ⟨I,F,pt,a,b,e1,e2,i0,i1,f0,f1,fl,il,iD,fD⟩:=Jf d hd h0
      rw[e1]
      cases hdn:decide (d.aw<0) <;> cases pt <;> simp <;> omega
  have h1:=U2 (MV d) hl (fun a b=>some (a,b))
  rw[key]at h1
  simp only[Option.some.injEq]at h1
  rw[h1]

theorem NP {d:iH} (hd:Fm d):(∀b∈MV d,M3 b=true)∧(∃c u,MV d=c::u∧(c.toNat=45∨(48≤c.toNat∧c.toNat≤57)))∧(MV d).length≤60:=by
  have dig:∀b:UInt8,nR b→M3 b=true:=fun b hb=>by
    have all:∀n:Fin 256,(48≤n.val∧n.val≤57)→M3 (UInt8.ofNat n.val)=true:=by decide +kernel
    have:=all ⟨b.toNat,UInt8.toNat_lt b⟩ hb
    simpa using this
  by_cases h0:d.aw=0
  · rw[hd.zero h0,L0]
    exact ⟨by decide,⟨48, [],rfl,by decide⟩,by simp⟩
  · obtain ⟨I,F,pt,a,b,e1,e2,i0,i1,f0,f1,fl,il,iD,fD⟩:=Jf d hd h0
    rw[e1]
    refine ⟨fun x hx => ?_,?_,?_⟩
    · rcases List.mem_append.1 hx with hx|hx
      · split at hx
        · simp at hx; subst hx; decide
        · simp at hx
      · rcases List.mem_append.1 hx with hx|hx
        · exact dig x (iD x hx)
        · split at hx
          · rcases List.mem_cons.1 hx with rfl|hx
            · decide
            · exact dig x (fD x hx)
          · simp at hx
    · cases I with
      | nil=>exact (i0 rfl).elim
      | cons c I =>
        cases decide (d.aw<0)with
        | true=>exact ⟨45,_,rfl,by decide⟩
        | false=>exact ⟨c,_,rfl, .inr (iD c (by simp))⟩
    · cases hdn:decide (d.aw<0) <;> cases pt <;> simp <;> omega

theorem Yb {d:iH} (hd:Fm d):Word (MV d) ⟨3,MV d,d,0⟩:=by
  obtain ⟨h1,⟨c,u,h2,h3⟩,_⟩:=NP hd
  have hp:=Sq hd
  have hb:Sp c=false:=by
    have all:∀n:Fin 256,(n.val=45∨(48≤n.val∧n.val≤57))→Sp (UInt8.ofNat n.val)=false:=by decide +kernel
    have:=all ⟨c.toNat,UInt8.toNat_lt c⟩ h3
    simpa using this
  refine ⟨⟨c,u,h2,hb⟩,fun r hr => ?_⟩
  obtain ⟨t1,t2⟩:=O6 (MV d) r h1 (X9 hr)
  have e:MV d++r=c::(u++r):=by rw[h2]; rfl
  rw[e]at t1 t2 ⊢
  simp only[tokS]
  rw[if_pos h3,t1,t2,hp]
  rfl
def sg (c:UInt8):vH:=([], [c],⟨1, [c],⟨0,0⟩,0⟩)
theorem ze:∀(a b:List vH) (z:ak),v7 (a++b) z=v7 a (v7 b z)
  | [],_,_=>rfl
  | x::a,b,z=>by simp only[List.cons_append,v7,ze a b z]

theorem w3:∀(a b:List vH) (z:ak),okW (a++b) z↔okW a (v7 b z)∧okW b z
  | [],b,z=>by simp[okW]
  | x::a,b,z=>by simp only[List.cons_append,okW,w3 a b z,ze,and_assoc]

theorem H9 {w:ak} {t:Token} (h:Word w t) {z:ak} (hz:JJ z):okW [([],w,t)] z:=⟨by simp,h.1,h.2 z hz,trivial⟩
theorem Bn {c:UInt8} (h:QF c=true) (z:ak):okW [sg c] z:=by
  refine ⟨by simp[sg],(U3 c h).1,?_,trivial⟩
  have all:∀n:Fin 256,QF (UInt8.ofNat n.val)=true→¬(n.val=45∨(48≤n.val∧n.val≤57))∧¬n.val=34:=by decide +kernel
  obtain ⟨h2,h3⟩:=all ⟨c.toNat,UInt8.toNat_lt c⟩ (by simpa using h)
  show tokS (c::z)=some (⟨1, [c],⟨0,0⟩,0⟩,z)
  simp only[tokS]
  rw[if_neg h2,if_neg h3,if_pos h]
theorem Fs {c:UInt8} (h:QF c=true) (z:ak):JJ (c::z):=by
  have all:∀n:Fin 256,QF (UInt8.ofNat n.val)=true→M3 (UInt8.ofNat n.val)=false∧O5 (UInt8.ofNat n.val)=false:=by decide +kernel
  obtain ⟨h2,h3⟩:=all ⟨c.toNat,UInt8.toNat_lt c⟩ (by simpa using h)
  exact .inr ⟨c,z,rfl,by simpa using h2,by simpa using h3⟩

end Go.Proofs.YtmlkkgfenfdndaaGreatDoor

/-
  Functions of the program as pure Lean functions, and the ties; printed by wip/tools/emit.py.
-/
set_option maxRecDepth 100000
namespace Go.Proofs.YtmlkkgfenfdndaaGreatDoor
open Go Go.ax

end Go.Proofs.YtmlkkgfenfdndaaGreatDoor

/-
  Functions of the program as pure Lean functions, and the ties; printed by wip/tools/emit.py.
-/
set_option maxRecDepth 100000
namespace Go.Proofs.YtmlkkgfenfdndaaGreatDoor
open Go Go.ax

end Go.Proofs.YtmlkkgfenfdndaaGreatDoor

set_option maxRecDepth 100000
namespace Go.Proofs.YtmlkkgfenfdndaaGreatDoor
open Go Go.ax Go.Lib

section
variable {R:Type} (k:iH→Bool→Option R) (s:ak) (hs:s.length≤4000000000) (sg:Int) (hsg:sg=1∨sg = -1) (all:ak) (x:Int) (ha:∀c∈all,nR c) (h0:all ≠ []) (hl:all.length≤900) (hx : -1000≤x∧x≤0)
include hs hsg ha h0 hl hx

end


def ZE (d:iH):Bool:=(d.aw==0&&d.exp==0)||(Int.tmod d.aw 10 != 0&&(decide (-1000000000000000≤d.aw)&&decide (d.aw≤1000000000000000)&&(decide (-9≤d.exp)&&decide (d.exp≤9))))
theorem Ia {d:iH}:ZE d=true↔Fm d:=by
  unfold ZE Fm
  simp[and_assoc]

theorem NQ {R:Type} (d:iH) (k:Bool→Option R):bW d k=k (ZE d):=by
  have e:bW d k=lx aU d k:=rfl
  rw[e]
  unfold lx ZE
  by_cases h0:d.aw=0
  · rw[h0]
    have t0:((0:Int)==0)=true:=rfl
    have t1:(Int.tmod 0 10 != 0)=false:=rfl
    rw[t0,t1,cond_true,Bool.true_and,Bool.false_and,Bool.or_false]
  · have e0:(d.aw==0)=false:=by rw[beq_eq_false_iff_ne]; exact h0
    rw[e0,cond_false,Bool.false_and,Bool.false_or]
    cases ht:(Int.tmod d.aw 10 != 0)with
    | false=>rfl
    | true =>
      rw[cond_true,Bool.true_and,CV]
      cases (decide (-1000000000000000≤d.aw)&&decide (d.aw≤1000000000000000))with
      | false=>rfl
      | true=>rw[cond_true,CV,Bool.true_and]


theorem U5 {R:Type} {d:iH} (hd:ZE d=false) (k:ak→Option R):aX d k=k []:=by
  have e:aX d k=om bW ah af ag d k:=rfl
  rw[e]
  unfold om
  rw[NQ,hd]
  rfl
def BL (d:iH):ak:=if ZE d then MV d else []
theorem NR {R:Type} (d:iH) (k:ak→Option R):aX d k=k (BL d):=by
  unfold BL
  cases h:ZE d with
  | true=>rw[XB (Ia.1 h)]; rfl
  | false=>rw[U5 h]; rfl

def uC:List ak→List ak→Bool
  | _, []=>true
  | seen,n::l => !seen.contains n&&iu n&&uC (n::seen) l

mutual
def fg:Json→Int→Bool
  | ⟨k,n,t,ns,is⟩,d=>decide (d≤16)&&(decide (1≤k)&&decide (k≤7))&&(k==4||(n.aw==0&&n.exp==0))&&(k==5||t.isEmpty)&&(k==7||ns.isEmpty)&&(k==6||k==7||is.isEmpty) &&
      (if k=4 then ZE n else if k=5 then iu t else if k=7 then decide (ns.length=is.length)&&uC [] ns&&gB is (d+1)else gB is (d+1))
def gB:List Json→Int→Bool
  | [],_=>true
  | x::l,d=>fg x d&&gB l d
end

theorem GV {d:Int}:∀ {l:List Json} {x:Json},gB l d=true→x∈l→fg x d=true
  | y::l,x,h,hx=>by
    simp only[gB,Bool.and_eq_true]at h
    rcases List.mem_cons.1 hx with rfl|hx
    · exact h.1
    · exact GV h.2 hx

inductive Ji:Json→Int→Prop where
  | name (k:Int) (d:Int) (hd:d≤16) (hk:k=1∨k=2∨k=3):Ji ⟨k,⟨0,0⟩, [], [], []⟩ d
  | num (n:iH) (d:Int) (hd:d≤16) (hn:Fm n):Ji ⟨4,n, [], [], []⟩ d
  | text (t:ak) (d:Int) (hd:d≤16) (ht:iu t=true):Ji ⟨5,⟨0,0⟩,t, [], []⟩ d
  | arr (is:List Json) (d:Int) (hd:d≤16) (hi:gB is (d+1)=true):Ji ⟨6,⟨0,0⟩, [], [],is⟩ d
  | obj (ns:List ak) (is:List Json) (d:Int) (hd:d≤16) (hl:ns.length=is.length) (hu:uC [] ns=true) (hi:gB is (d+1)=true):Ji ⟨7,⟨0,0⟩, [],ns,is⟩ d

theorem iG {v:Json} {d:Int}:fg v d=true↔Ji v d:=by
  obtain ⟨k,⟨m,e⟩,t,ns,is⟩:=v
  constructor
  · intro h
    simp only[fg,Bool.and_eq_true,Bool.or_eq_true,decide_eq_true_eq,beq_iff_eq,List.isEmpty_iff]at h
    obtain ⟨⟨⟨⟨⟨⟨hd,Uh,Gq⟩,hn⟩,ht⟩,Ik⟩,Kv⟩,hx⟩:=h
    have hk:k=1∨k=2∨k=3∨k=4∨k=5∨k=6∨k=7:=by omega
    rcases hk with rfl|rfl|rfl|rfl|rfl|rfl|rfl
    · simp at hn ht Ik Kv
      obtain ⟨rfl,rfl⟩:=hn
      subst ht Ik Kv
      exact .name 1 d hd (by omega)
    · simp at hn ht Ik Kv
      obtain ⟨rfl,rfl⟩:=hn
      subst ht Ik Kv
      exact .name 2 d hd (by omega)
    · simp at hn ht Ik Kv
      obtain ⟨rfl,rfl⟩:=hn
      subst ht Ik Kv
      exact .name 3 d hd (by omega)
    · simp at ht Ik Kv hx
      subst ht Ik Kv
      exact .num _ d hd (Ia.1 hx)
    · simp at hn Ik Kv hx
      obtain ⟨rfl,rfl⟩:=hn
      subst Ik Kv
      exact .text t d hd hx
    · simp at hn ht Ik hx
      obtain ⟨rfl,rfl⟩:=hn
      subst ht Ik
      exact .arr is d hd hx
    · simp at hn ht hx
      obtain ⟨rfl,rfl⟩:=hn
      subst ht
      exact .obj ns is d hd hx.1.1 hx.1.2 hx.2
  · intro h
    cases h with
    | name _ _ hd hk=>rcases hk with rfl|rfl|rfl <;> simp[fg,gB,hd]
    | num _ _ hd hn=>simp[fg,hd,Ia.2 hn]
    | text _ _ hd ht=>simp[fg,hd,ht]
    | arr _ _ hd hi=>simp[fg,hd,hi]
    | obj _ _ _ hd hl hu hi=>simp[fg,hd,hl,hu,hi]

def QG (t:ak):ak:=34::(t.flatMap qb ++ [34])
theorem Kw {rs:List Nat} (hr:∀c∈rs,vr c):QG (cL rs)=qt rs:=by unfold QG qt; rw[Tj rs hr]

mutual
def oX:Json→ak
  | ⟨k,n,t,ns,is⟩=>if k=1 then xC else if k=2 then rq else if k=3 then xB else if k=4 then BL n else if k=5 then QG t else if k=7 then 123::(od ns is true ++ [125])else 91::(nS is true ++ [93])
def nS:List Json→Bool→ak
  | [],_ => []
  | x::l,first=>(if first then []else [44])++(oX x++nS l false)
def od:List ak→List Json→Bool→ak
  | _, [],_ => []
  | ns,x::l,first=>(if first then []else [44])++(QG (ns.headD [])++(58::(oX x++od ns.tail l false)))
end

def U6 (t:ak):vH:=([],QG t,⟨2,t,⟨0,0⟩,0⟩)
mutual
def w6:Json→List vH
  | ⟨k,n,t,ns,is⟩=>if k=1 then [([],xC,⟨4,xC,⟨0,0⟩,0⟩)]else if k=2 then [([],rq,⟨4,rq,⟨0,0⟩,0⟩)]else if k=3 then [([],xB,⟨4,xB,⟨0,0⟩,0⟩)]
      else if k=4 then [([],BL n,⟨3,BL n,n,0⟩)]else if k=5 then [U6 t]else if k=7 then sg 123::(oY ns is true ++ [sg 125])else sg 91::(sF is true ++ [sg 93])
def sF:List Json→Bool→List vH
  | [],_ => []
  | x::l,first=>(if first then []else [sg 44])++(w6 x++sF l false)
def oY:List ak→List Json→Bool→List vH
  | _, [],_ => []
  | ns,x::l,first=>(if first then []else [sg 44])++(U6 (ns.headD [])::sg 58::(w6 x++oY ns.tail l false))
end

mutual
theorem Ft:∀(v:Json) (z:ak),v7 (w6 v) z=oX v++z
  | ⟨k,n,t,ns,is⟩,z=>by
    have hL:=L2 is true
    have hO:=L3 ns is true
    simp only[w6,oX]
    split
    · simp[v7]
    split
    · simp[v7]
    split
    · simp[v7]
    split
    · simp[v7]
    split
    · simp[v7,U6]
    split
    · simp only[v7,sg,ze,hO]; simp[v7,sg]
    · simp only[v7,sg,ze,hL]; simp[v7,sg]
theorem L2:∀(l:List Json) (first:Bool) (z:ak),v7 (sF l first) z=nS l first++z
  | [],_,z=>rfl
  | x::l,first,z=>by
    have h1:=Ft x
    have h2:=L2 l false
    simp only[sF,nS]
    rw[ze,ze,h1,h2]
    cases first <;> simp[v7,sg]
theorem L3:∀(ns:List ak) (l:List Json) (first:Bool) (z:ak),v7 (oY ns l first) z=od ns l first++z
  | ns, [],_,z=>by simp[oY,od,v7]
  | ns,x::l,first,z=>by
    have h1:=Ft x
    have h2:=L3 ns.tail l false
    simp only[oY,od]
    rw[ze]
    simp only[v7,U6,sg,ze,h1,h2]
    cases first <;> simp[v7,sg]
end

theorem QH {t:ak} (ht:iu t=true) (z:ak):okW [U6 t] z:=by
  obtain ⟨rs,hr,rfl⟩:=xR.1 ht
  have e:=Kw hr
  have hw:=U4 hr
  refine ⟨by simp[U6],by simp only[U6,e]; exact hw.1,?_,trivial⟩
  show tokS (QG (cL rs)++z)=some (⟨2,cL rs,⟨0,0⟩,0⟩,z)
  have e2:qt rs=34::(H6 rs ++ [34]):=by unfold qt; simp
  have hu:=XV rs hr z
  have e3:qt rs++z=34::(H6 rs ++ [34]++z):=by rw[e2]; rfl
  rw[e,e3]
  rw[e3]at hu
  simp only[tokS]
  rw[if_neg (by decide),if_pos (by decide),hu]

mutual
theorem Ib:∀(v:Json) (d:Int),fg v d=true→∀z,JJ z→okW (w6 v) z
  | ⟨k,n,t,ns,is⟩,d,h,z,hz=>by
    have hL:=NS is
    have hO:=NT ns is
    cases iG.1 h with
    | name _ _ hd hk =>
      rcases hk with rfl|rfl|rfl
      · exact H9 (Jh (.inr (.inr rfl))) hz
      · exact H9 (Jh (.inr (.inl rfl))) hz
      · exact H9 (Jh (.inl rfl)) hz
    | num _ _ hd hn =>
      have e:BL n=MV n:=by unfold BL; rw[Ia.2 hn]; rfl
      show okW [([],BL n,⟨3,BL n,n,0⟩)] z
      rw[e]
      exact H9 (Yb hn) hz
    | text _ _ hd ht=>exact QH ht z
    | arr _ _ hd hi =>
      show okW ([sg 91]++(sF is true ++ [sg 93])) z
      rw[w3,w3]
      exact ⟨Bn (by decide) _,hL true (d+1) hi _ (Fs (by decide) _),Bn (by decide) _⟩
    | obj _ _ _ hd hl hu hi =>
      show okW ([sg 123]++(oY ns is true ++ [sg 125])) z
      rw[w3,w3]
      exact ⟨Bn (by decide) _,hO true (d+1) hi hl [] hu _ (Fs (by decide) _),Bn (by decide) _⟩
theorem NS:∀(l:List Json) (first:Bool) (d:Int),gB l d=true→∀z,JJ z→okW (sF l first) z
  | [],_,_,_,_,_=>trivial
  | x::l,first,d,h,z,hz=>by
    simp only[gB,Bool.and_eq_true]at h
    have h1:=Ib x d h.1
    have h2:=NS l false d h.2 z hz
    simp only[sF]
    rw[w3,w3]
    refine ⟨?_,h1 _ ?_,h2⟩
    · cases first
      · exact Bn (by decide) _
      · trivial
    · cases l with
      | nil=>exact hz
      | cons y l =>
        simp only[sF]
        exact Fs (c:=44) (by decide) _
theorem NT:∀(ns:List ak) (l:List Json) (first:Bool) (d:Int),gB l d=true→ns.length=l.length→∀seen,uC seen ns=true→∀z,JJ z→okW (oY ns l first) z
  | ns, [],_,_,_,_,_,_,_,_=>by simp[oY,okW]
  | [],_::_,_,_,_,hl,_,_,_,_=>by simp at hl
  | n::ns,x::l,first,d,h,hl,seen,hu,z,hz=>by
    simp only[gB,Bool.and_eq_true]at h
    simp only[uC,Bool.and_eq_true]at hu
    have h1:=Ib x d h.1
    have h2:=NT ns l false d h.2 (by simpa using hl) _ hu.2 z hz
    simp only[oY,List.headD_cons,List.tail_cons]
    show okW ((if first=true then []else [sg 44])++([U6 n]++([sg 58]++(w6 x++oY ns l false)))) z
    rw[w3,w3,w3,w3]
    refine ⟨?_,QH hu.1.2 _,Bn (by decide) _,h1 _ ?_,h2⟩
    · cases first
      · exact Bn (by decide) _
      · trivial
    · cases l with
      | nil=>simp only[oY,v7]; exact hz
      | cons y l =>
        simp only[oY]
        exact Fs (c:=44) (by decide) _
end

mutual
def FN:Json→Bool
  | ⟨_,_,t,ns,is⟩=>decide (ns.length≤1099511627776)&&decide (is.length≤1099511627776)&&Kb is&&(decide (t.length≤10000000000)&&ns.all fun n=>decide (n.length≤10000000000))
def Kb:List Json→Bool
  | []=>true
  | x::l=>FN x&&Kb l
end
theorem E2:∀ {l:List Json} {x:Json},Kb l=true→x∈l→FN x=true
  | y::l,x,h,hx=>by
    simp only[Kb,Bool.and_eq_true]at h
    rcases List.mem_cons.1 hx with rfl|hx
    · exact h.1
    · exact E2 h.2 hx
theorem Bo {v:Json}:FN v=true↔v.names.length≤1099511627776∧v.items.length≤1099511627776∧Kb v.items=true∧v.text.length≤10000000000∧∀n∈v.names,n.length≤10000000000:=by
  obtain ⟨k,n,t,ns,is⟩:=v
  simp[FN,and_assoc]

theorem C0 (a b:ak):xw .str a b=(a==b):=rfl
def Tl (m:List (ak × Bool)) (n:ak):Bool:=nF .str .bool n m
theorem Yc (m:List (ak × Bool)) (a b:ak):Tl (wa .str .bool a true m) b=((b==a)||Tl m b):=by
  induction m with
  | nil =>
    show (bif xw .str b a then true else false)=_
    rw[C0]
    cases b==a <;> rfl
  | cons e m ih =>
    unfold Tl at ih ⊢
    show nF .str .bool b (bif xw .str a e.1 then (a,true)::m else e::wa .str .bool a true m)=((b==a)||(bif xw .str b e.1 then e.2 else nF .str .bool b m))
    rw[C0,C0]
    by_cases h1:a=e.1
    · have h1':(a==e.1)=true:=by simpa using h1
      rw[h1',cond_true]
      show (bif xw .str b a then true else nF .str .bool b m)=_
      rw[C0,←h1]
      cases b==a <;> rfl
    · have h1':(a==e.1)=false:=by simpa using h1
      rw[h1',cond_false]
      show (bif xw .str b e.1 then e.2 else nF .str .bool b (wa .str .bool a true m))=_
      rw[C0,ih]
      by_cases h2:b=a
      · have h3:(b==e.1)=false:=by rw[h2]; exact h1'
        rw[h3]
        rfl
      · have h3:(b==a)=false:=by simpa using h2
        rw[h3]
        rfl

theorem QI {R:Type} (ns:List ak) (hl:ns.length≤1099511627776) (k:Bool→Option R):∀(F i:Nat) (m:List (ak × Bool)) (seen:List ak),i≤ns.length→ns.length - i<F→(∀n,Tl m n=seen.contains n) →
    cr F ns (ns.length:Int) (i:Int) m (k true) k=k (uC seen (ns.drop i)):=by
  intro F
  induction F with
  | zero=>intro i m seen _ h; omega
  | succ F ih =>
    intro i m seen hi hF hm
    show rF bk (fun x0 x1 x2 x3=>cr F x0 x1 x2 x3 (k true) k) ns (ns.length:Int) (i:Int) m (k true) k=_
    unfold rF
    by_cases h:i<ns.length
    · have h1:decide ((i:Int)<(ns.length:Int))=true:=by simp; omega
      have h2:(decide ((0:Int)≤(i:Int))&&true)=true:=by simp
      have hw:IntKind.i64.wrap ((i:Int)+1)=((i+1:Nat):Int):=by rw[ef (by omega) (by omega)]; omega
      have hg:ns.getD (i:Int).toNat (Ty.cg .str)=ns[i]:=getD_at h _
      have hsn:nF .str .bool ns[i] m=seen.contains ns[i]:=hm ns[i]
      rw[h1,cond_true,bH h2,hg,hsn,hw,Qw,List.drop_eq_getElem_cons h]
      simp only[uC]
      cases seen.contains ns[i]with
      | true=>rfl
      | false =>
        cases iu ns[i]with
        | false=>rfl
        | true =>
          simp only[cond_false,Bool.not_true,Bool.not_false,Bool.true_and]
          refine ih (i+1) _ (ns[i]::seen) (by omega) (by omega) fun n => ?_
          rw[Yc,hm]
          simp only[List.contains_cons]
    · have h1:decide ((i:Int)<(ns.length:Int))=false:=by simp; omega
      rw[h1,cond_false,List.drop_eq_nil_of_le (by omega)]
      rfl

theorem Sr {R:Type} (ns:List ak) (hl:ns.length≤1099511627776) (k:Bool→Option R):iv ns k=k (uC [] ns):=by
  have:=QI ns hl k (List.length ns+Int.natAbs (ns.length:Int)+Int.natAbs 0+List.length ([]:List (ak × Bool))+64) 0 [] [] (by omega) (by omega) fun n=>rfl
  rw[List.drop_zero]at this
  exact this

theorem QJ {R:Type} (f:bK R) (is:List Json) (hl:is.length≤1099511627776) (d:Int) (hd:0≤d∧d≤16) (hf:∀x∈is,∀k:Bool→Option R,f x (d+1) k=k (fg x (d+1))) (k:Bool→Int→Option R):∀(F i:Nat),i≤is.length→is.length - i<F →
    aK f F is (is.length:Int) (i:Int) d (fun y=>k (decide ((-1:Int)≥0)) y) (fun x y=>k (decide (x≥0)) y)=k (!gB (is.drop i) (d+1)) d:=by
  intro F
  induction F with
  | zero=>intro i _ h; omega
  | succ F ih =>
    intro i hi hF
    show fU (bX f) (fun x0 x1 x2 x3=>aK f F x0 x1 x2 x3 _ _) is (is.length:Int) (i:Int) d _ _=_
    unfold fU
    by_cases h:i<is.length
    · have h1:decide ((i:Int)<(is.length:Int))=true:=by simp; omega
      have h2:(decide ((0:Int)≤(i:Int))&&true)=true:=by simp
      have hw:IntKind.i64.wrap ((i:Int)+1)=((i+1:Nat):Int):=by rw[ef (by omega) (by omega)]; omega
      have hwd:IntKind.i64.wrap (d+1)=d+1:=ef (by omega) (by omega)
      have hg:is.getD (i:Int).toNat (Ty.cg .json)=is[i]:=getD_at h _
      have hj:(decide ((i:Int)≥0))=true:=by simp
      have he:∀(x:Json) (q:Bool→Int→Option R),bX f x d q=f x (IntKind.i64.wrap (d+1)) fun y=>q (!y) d:=fun x q=>by
        show pz f x d q=_
        unfold pz
        simp only[Json.eta]
      rw[h1,cond_true,bH h2,hg,Json.eta,he,hwd,hf _ (List.getElem_mem h),List.drop_eq_getElem_cons h]
      simp only[gB]
      cases fg is[i] (d+1)with
      | false=>simp only[Bool.not_false,cond_true,Bool.false_and,hj]
      | true =>
        simp only[Bool.not_true,cond_false,Bool.true_and]
        rw[hw]
        exact ih (i+1) (by omega) (by omega)
    · have h1:decide ((i:Int)<(is.length:Int))=false:=by simp; omega
      rw[h1,cond_false,List.drop_eq_nil_of_le (by omega)]
      rfl

theorem O7 {R:Type} (f:bK R) (is:List Json) (hl:is.length≤1099511627776) (d:Int) (hd:0≤d∧d≤16) (hf:∀x∈is,∀k:Bool→Option R,f x (d+1) k=k (fg x (d+1))) (k:Bool→Int→Option R) :
    aN f is d k=k (!gB is (d+1)) d:=by
  have:=QJ f is hl d hd hf k (List.length is+Int.natAbs (is.length:Int)+Int.natAbs 0+Int.natAbs d+64) 0 (by omega) (by omega)
  rw[List.drop_zero]at this
  exact this

theorem QK {l:List Json} {y:Json} (h:y∈l):y.depth≤Json.Bc l:=by
  induction l with
  | nil=>cases h
  | cons a l ih =>
    simp only[Json.Bc]
    rcases List.mem_cons.1 h with rfl|h
    · exact Nat.le_max_left _ _
    · exact Nat.le_trans (ih h) (Nat.le_max_right _ _)
theorem U7 (x:Json):x.depth=Json.Bc x.items+1:=by cases x; simp[Json.depth]
theorem E3 {x y:Json} (h:y∈x.items):y.depth<x.depth:=by rw[U7 x]; exact Nat.lt_succ_of_le (QK h)

theorem ZF {R:Type} (k n1 n2:Int) (t:ak) (ns:List ak) (is:List Json) (q:Json→Option R):mE ⟨k,⟨n1,n2⟩,t,ns,is⟩ q =
    q ⟨k,if k=4 then ⟨0,0⟩else ⟨n1,n2⟩,if k=5 then []else t,if k=7 then []else ns,if k=6∨k=7 then []else is⟩:=by
  show Ca _ q=_
  unfold Ca
  simp only
  by_cases h4:k=4
  · subst h4; rfl
  by_cases h5:k=5
  · subst h5; rfl
  by_cases h7:k=7
  · subst h7; rfl
  by_cases h6:k=6
  · subst h6; rfl
  have e4:(k==4)=false:=by simpa using h4
  have e5:(k==5)=false:=by simpa using h5
  have e6:(k==6)=false:=by simpa using h6
  have e7:(k==7)=false:=by simpa using h7
  rw[e4,e5,e6,e7]
  simp[h4,h5,h6,h7]

theorem chain {R:Type} (k:Bool→Option R) {a b c:Bool} {x:Option R} {r:Bool} (hx:a=true→b=true→c=false→x=k r) (hr:(a=true∧b=true∧c=false)∨r=false) :
    (bif !a then k false else (bif !b then k false else (bif c then k false else x)))=k r:=by
  cases a with
  | false =>
    rcases hr with ⟨h,_⟩|rfl
    · cases h
    · rfl
  | true =>
    cases b with
    | false =>
      rcases hr with ⟨_,h,_⟩|rfl
      · cases h
      · rfl
    | true =>
      cases c with
      | true =>
        rcases hr with ⟨_,_,h⟩|rfl
        · cases h
        · rfl
      | false=>exact hx rfl rfl rfl

theorem ZG {R:Type}:∀(n:Nat) (v:Json) (d:Int),FN v=true→v.depth<n→0≤d→d≤17→∀k:Bool→Option R,eJ n v d k=k (fg v d):=by
  intro n
  induction n with
  | zero=>intro v d _ h; omega
  | succ n ih =>
    intro v d hv hn hd0 hd1 k
    obtain ⟨Ik,Kv,Ua,_⟩:=Bo.1 hv
    have he:eJ (n+1) v d k=Ao bk bW mE iv (aN (eJ n)) v d k:=rfl
    rw[he]
    have hcf:d≤16→∀q:Bool→Int→Option R,aN (eJ n) v.items d q=q (!gB v.items (d+1)) d:=fun QL q =>
      O7 _ _ Kv d ⟨hd0,QL⟩ (fun x hx k=>ih x (d+1) (E2 Ua hx) (by have:=E3 hx; omega) (by omega) (by omega) k) q
    obtain ⟨kd,⟨n1,n2⟩,t,ns,is⟩:=v
    unfold Ao
    simp only at Ik Kv hcf ⊢
    rw[ZF]
    simp only
    by_cases QL:d≤16
    rotate_left
    · have e1:decide (d>16)=true:=by simp; omega
      rw[e1,cond_true]
      simp[fg,QL]
    have e1:decide (d>16)=false:=by simp; omega
    rw[e1,cond_false]
    by_cases Uh:kd<1
    · have e2:decide (kd<1)=true:=by simpa using Uh
      have:¬1≤kd:=by omega
      rw[e2,cond_true]
      simp[fg,this]
    have e2:decide (kd<1)=false:=by simpa using Uh
    rw[e2,cond_false]
    by_cases hk7:kd>7
    · have e3:decide (kd>7)=true:=by simpa using hk7
      have:¬kd≤7:=by omega
      rw[e3,cond_true]
      simp[fg,this]
    have e3:decide (kd>7)=false:=by simpa using hk7
    rw[e3,cond_false]
    have hk:kd=1∨kd=2∨kd=3∨kd=4∨kd=5∨kd=6∨kd=7:=by omega
    have Ss:∀a b:Nat,a≤1099511627776→b≤1099511627776→decide (IntKind.i64.wrap ((a:Int)+(b:Int))>0) = !(a==0&&b==0):=by
      intro a b ha hb
      rw[ef (by omega) (by omega)]
      rw[Bool.eq_iff_iff,decide_eq_true_eq]
      simp only[Bool.not_eq_true',Bool.and_eq_false_iff,beq_eq_false_iff_ne]
      omega
    have hie:∀l:List ak,(l.length==0)=l.isEmpty:=fun l=>by cases l <;> rfl
    have hje:∀l:List Json,(l.length==0)=l.isEmpty:=fun l=>by cases l <;> rfl
    have Rz:∀l:ak,(l==([]:ak))=l.isEmpty:=fun l=>by cases l <;> rfl
    have xF:∀d:Int,gB [] d=true:=fun _=>rfl
    have U8:∀a b:Int,((a==0)&&((b==0)&&true))=(a==0&&b==0):=fun a b=>by cases a==0 <;> cases b==0 <;> rfl
    have hcf0:∀q:Bool→Int→Option R,is.isEmpty=true→aN (eJ n) is d q=q false d:=fun q h=>by
      rw[hcf QL]
      obtain rfl:is = []:=List.isEmpty_iff.1 h
      rfl
    have Yd:∀a b c:Bool,(a=true∧b=true∧(!c)=false)∨((a&&b)&&c)=false:=by decide
    have hb4:∀b c q:Bool,(true=true∧b=true∧(!c)=false)∨((b&&c)&&q)=false:=by decide
    have hb5:∀a c q:Bool,(a=true∧true=true∧(!c)=false)∨((a&&c)&&q)=false:=by decide
    have hb6:∀a b c q:Bool,(a=true∧b=true∧(!c)=false)∨(((a&&b)&&c)&&q)=false:=by decide
    have hb7:∀a b q:Bool,(a=true∧b=true∧false=false)∨((a&&b)&&q)=false:=by decide
    rcases hk with rfl|rfl|rfl|rfl|rfl|rfl|rfl
    · have hr:fg ⟨1,⟨n1,n2⟩,t,ns,is⟩ d=(((n1==0&&n2==0)&&t.isEmpty)&&(ns.isEmpty&&is.isEmpty)):=by
        cases is <;> simp[fg,gB,QL]
      simp only[Int.reduceEq,if_false,or_self,U8]
      rw[Ss _ _ Ik Kv,hie,hje,Rz,hr]
      refine chain k (fun h1 h2 h3 => ?_) (Yd _ _ _)
      have h4:ns.isEmpty=true∧is.isEmpty=true:=by simpa using h3
      rw[h1,h2,h4.1,h4.2]
      show aN (eJ n) is d (fun Il GK=>k (!Il))=k true
      exact hcf0 _ h4.2
    · have hr:fg ⟨2,⟨n1,n2⟩,t,ns,is⟩ d=(((n1==0&&n2==0)&&t.isEmpty)&&(ns.isEmpty&&is.isEmpty)):=by
        cases is <;> simp[fg,gB,QL]
      simp only[Int.reduceEq,if_false,or_self,U8]
      rw[Ss _ _ Ik Kv,hie,hje,Rz,hr]
      refine chain k (fun h1 h2 h3 => ?_) (Yd _ _ _)
      have h4:ns.isEmpty=true∧is.isEmpty=true:=by simpa using h3
      rw[h1,h2,h4.1,h4.2]
      show aN (eJ n) is d (fun Il GK=>k (!Il))=k true
      exact hcf0 _ h4.2
    · have hr:fg ⟨3,⟨n1,n2⟩,t,ns,is⟩ d=(((n1==0&&n2==0)&&t.isEmpty)&&(ns.isEmpty&&is.isEmpty)):=by
        cases is <;> simp[fg,gB,QL]
      simp only[Int.reduceEq,if_false,or_self,U8]
      rw[Ss _ _ Ik Kv,hie,hje,Rz,hr]
      refine chain k (fun h1 h2 h3 => ?_) (Yd _ _ _)
      have h4:ns.isEmpty=true∧is.isEmpty=true:=by simpa using h3
      rw[h1,h2,h4.1,h4.2]
      show aN (eJ n) is d (fun Il GK=>k (!Il))=k true
      exact hcf0 _ h4.2
    · have hr:fg ⟨4,⟨n1,n2⟩,t,ns,is⟩ d=((t.isEmpty&&(ns.isEmpty&&is.isEmpty))&&ZE ⟨n1,n2⟩):=by
        simp[fg,QL,Bool.and_assoc]
      simp only[Int.reduceEq,if_false,if_true,or_self]
      rw[Ss _ _ Ik Kv,hie,hje,Rz,hr]
      refine chain k (a:=true) (b:=t.isEmpty) (c := !(ns.isEmpty&&is.isEmpty)) (fun h1 h2 h3 => ?_) (hb4 _ _ _)
      have h4:ns.isEmpty=true∧is.isEmpty=true:=by simpa using h3
      rw[h2,h4.1,h4.2]
      exact NQ _ _
    · have hr:fg ⟨5,⟨n1,n2⟩,t,ns,is⟩ d=(((n1==0&&n2==0)&&(ns.isEmpty&&is.isEmpty))&&iu t):=by
        simp[fg,QL,Bool.and_assoc]
      simp only[Int.reduceEq,if_false,if_true,or_self,U8]
      rw[Ss _ _ Ik Kv,hie,hje,hr]
      refine chain k (a:=(n1==0&&n2==0)) (b:=true) (c := !(ns.isEmpty&&is.isEmpty)) (fun h1 h2 h3 => ?_) (hb5 _ _ _)
      have h4:ns.isEmpty=true∧is.isEmpty=true:=by simpa using h3
      rw[h1,h4.1,h4.2]
      exact Qw _ _
    · have hr:fg ⟨6,⟨n1,n2⟩,t,ns,is⟩ d=((((n1==0&&n2==0)&&t.isEmpty)&&ns.isEmpty)&&gB is (d+1)):=by
        simp[fg,QL,Bool.and_assoc]
      simp only[Int.reduceEq,if_false,if_true,true_or,U8]
      have UX:=Ss ns.length 0 Ik (by omega)
      have hq:((0:Nat)==0)=true:=rfl
      rw[hq,Bool.and_true,hie]at UX
      rw[List.length_nil,UX,Rz,hr]
      refine chain k (a:=(n1==0&&n2==0)) (b:=t.isEmpty) (c := !ns.isEmpty) (fun h1 h2 h3 => ?_) (hb6 _ _ _ _)
      have h4:ns.isEmpty=true:=by simpa using h3
      rw[h1,h2,h4]
      show aN (eJ n) is d (fun Il GK=>k (!Il))=k (gB is (d+1))
      rw[hcf QL,Bool.not_not]
    · have hr:fg ⟨7,⟨n1,n2⟩,t,ns,is⟩ d=(((n1==0&&n2==0)&&t.isEmpty)&&(decide (ns.length=is.length)&&uC [] ns&&gB is (d+1))):=by
        simp[fg,QL,Bool.and_assoc]
      simp only[Int.reduceEq,if_false,if_true,or_true,U8]
      have UX:=Ss 0 0 (by omega) (by omega)
      rw[List.length_nil,List.length_nil,UX,Rz,hr]
      refine chain k (a:=(n1==0&&n2==0)) (b:=t.isEmpty) (c:=false) (fun h1 h2 h3 => ?_) (hb7 _ _ _)
      rw[h1,h2]
      show (bif ((ns.length:Int) != (is.length:Int))then k false else iv ns (fun y7=>bif !y7 then k false else aN (eJ n) is d (fun B6 HM=>k (!B6))))=_
      by_cases hl:ns.length=is.length
      · have e9:((ns.length:Int) != (is.length:Int))=false:=by rw[hl]; simp
        rw[e9,cond_false,Sr ns Ik,hcf QL,Bool.not_not]
        cases uC [] ns <;> simp[hl]
      · have e9:((ns.length:Int) != (is.length:Int))=true:=by simp; omega
        rw[e9,cond_true]
        simp[hl]

theorem GW {R:Type} (v:Json) (hv:FN v=true) (k:Bool→Option R):cp v k=k (fg v 1):=by
  have e:cp v k=Aq kP v k:=rfl
  rw[e]
  unfold Aq
  simp only[Json.eta]
  exact ZG (v.depth+2) v 1 hv (by omega) (by omega) (by omega) k

end Go.Proofs.YtmlkkgfenfdndaaGreatDoor

/-
  Functions of the program as pure Lean functions, and the ties; printed by wip/tools/emit.py.
-/
set_option maxRecDepth 100000
namespace Go.Proofs.YtmlkkgfenfdndaaGreatDoor
open Go Go.ax

/-! ### (*humpyard/json.parser).fail -/
abbrev bQ (R:Type):Type:=Int→(List Token)→Int→((List Token)→Int→Option R)→Option R
abbrev fY:List bJ := [.leaf (.ptr 0 0), .leaf (.int .i64)]
abbrev fZ:List aF := [.cells [.sl .token, .int .i64]]
noncomputable def jL {R:Type} (fn:bQ R):bJ.au fY→aF.au fZ→(V→ay→Option R)→Option R:=fun x y k=>fn x.2.1 y.1.1 y.1.2.1 (fun q0 q1=>k (.tuple []) [.cells [.sl .token q0 .no, .int .i64 q1]])
noncomputable def mI (R:Type):Env R:=fun i=>match i with
  | _=>none
theorem BM (R:Type):po Tryz.prog (mI R):=by
  intro i b sp h
  unfold mI at h
  split at h
  · cases h

noncomputable def vI (R:Type):Nat→Option (Hint × cd R):=fun i=>match i with
  | _=>none

noncomputable def vJ {R:Type} (x1:Int) (x2:List Token) (x3:Int) (k0:(List Token)→Int→Option R):Option R :=
  bif (x3==0)then (k0 x2 x1)else (k0 x2 x3)
noncomputable def ao {R:Type}:bQ R:=fun x1 x2 x3 k0=>vJ x1 x2 x3 k0
theorem Co {R:Type} (x1:Int) (x2:List Token) (x3:Int) (k:V→ay→Option R):iq (tt.mode [.json]) (mI R) (vI R) false Tryz.f43 (aI Tryz.f43) [.ptr 0 0, .int .i64 x1] [.cells [.sl .token x2 .no, .int .i64 x3]] k =
    vJ x1 x2 x3 (fun q0 q1=>k (.tuple []) [.cells [.sl .token q0 .no, .int .i64 q1]]):=by kernel_rfl
theorem AO (R:Type):∀a∈aO (aI Tryz.f43),cG (tt.mode [.json]) (mI R) (vI R) 1 a:=by
  refine bB 0 (by kernel_rfl) fun i hi => ?_
  omega
theorem kV (R:Type) (other:ax.Spec R) (ho:ax.Spec.Ok Tryz.prog 43 other):ax.Spec.Ok Tryz.prog 43 (az fY fZ (jL ao) other) :=
  bm ho (bc (TT.mode [.json]) mixed (BM R) (keep:=false) rfl rfl rfl rfl 1 (AO R)) fun (x:bJ.au fY) (y:aF.au fZ) k=>Co x.2.1 y.1.1 y.1.2.1 k

/-! ### (*humpyard/json.parser).sign -/
abbrev da (R:Type):Type:=ak→(List Token)→Int→(Bool→(List Token)→Int→Option R)→Option R
abbrev kf:List bJ := [.leaf (.ptr 0 0), .leaf (.str)]
abbrev kg:List aF := [.cells [.sl .token, .int .i64]]
noncomputable def oZ {R:Type} (fn:da R):bJ.au kf→aF.au kg→(V→ay→Option R)→Option R:=fun x y k=>fn x.2.1 y.1.1 y.1.2.1 (fun q0 q1 q2=>k (.bool q0) [.cells [.sl .token q1 .no, .int .i64 q2]])
noncomputable def mJ (R:Type):Env R:=fun i=>match i with
  | _=>none
theorem BN (R:Type):po Tryz.prog (mJ R):=by
  intro i b sp h
  unfold mJ at h
  split at h
  · cases h

noncomputable def vK (R:Type):Nat→Option (Hint × cd R):=fun i=>match i with
  | _=>none

noncomputable def vL {R:Type} (x1:ak) (x2:List Token) (x3:Int) (k0:Bool→(List Token)→Int→Option R):Option R :=
  cR (decide ((0:Int)<x2.length)) (bif (x3 != 0)then (k0 false x2 x3)else (bif ((x2.getD 0 (Ty.cg .token)).kind != 1)then (k0 false x2 x3)else (bif (!((x2.getD 0 (Ty.cg .token)).text==x1))then (k0 false x2 x3)else (cR (decide ((1:Int)≤x2.length)) (k0 true (x2.drop 1) x3)))))
noncomputable def aB {R:Type}:da R:=fun x1 x2 x3 k0=>vL x1 x2 x3 k0
theorem Cp {R:Type} (x1:ak) (x2:List Token) (x3:Int) (k:V→ay→Option R):iq (tt.mode [.json]) (mJ R) (vK R) false Tryz.f122 (aI Tryz.f122) [.ptr 0 0, .str x1] [.cells [.sl .token x2 .no, .int .i64 x3]] k =
    vL x1 x2 x3 (fun q0 q1 q2=>k (.bool q0) [.cells [.sl .token q1 .no, .int .i64 q2]]):=by kernel_rfl
theorem AP (R:Type):∀a∈aO (aI Tryz.f122),cG (tt.mode [.json]) (mJ R) (vK R) 1 a:=by
  refine bB 0 (by kernel_rfl) fun i hi => ?_
  omega
theorem sG (R:Type) (other:ax.Spec R) (ho:ax.Spec.Ok Tryz.prog 122 other):ax.Spec.Ok Tryz.prog 122 (az kf kg (oZ aB) other) :=
  bm ho (bc (TT.mode [.json]) mixed (BN R) (keep:=false) rfl rfl rfl rfl 1 (AP R)) fun (x:bJ.au kf) (y:aF.au kg) k=>Cp x.2.1 y.1.1 y.1.2.1 k

/-! ### slices.Index[[]string,string] -/
abbrev gF (R:Type):Type:=(List ak)→ak→(Int→Option R)→Option R
abbrev kA:List bJ := [.leaf (.sl .str), .leaf (.str)]
abbrev kB:List aF := []
noncomputable def qO {R:Type} (fn:gF R):bJ.au kA→aF.au kB→(V→ay→Option R)→Option R:=fun x y k=>fn x.1 x.2.1 (fun q0=>k (.int .i64 q0) [])
abbrev er (R:Type):Type:=Nat→(List ak)→ak→Int→Int→(Option R)→(Int→Option R)→Option R
noncomputable def eK (R:Type):Env R:=fun i=>match i with
  | _=>none
theorem zf (R:Type):po Tryz.prog (eK R):=by
  intro i b sp h
  unfold eK at h
  split at h
  · cases h

noncomputable def pe {R:Type} (gm:(List ak)→ak→Int→Int→Option R) (x3:List ak) (x4:ak) (x5:Int) (x6:Int) (e0:Option R) (e1:Int→Option R):Option R :=
  bif (decide (x6<x5))then (cR (decide ((0:Int)≤x6)&&decide (x6<x3.length)) (bif (x4==(x3.getD x6.toNat (Ty.cg .str)))then (e1 x6)else (gm x3 x4 x5 (IntKind.i64.wrap (x6+1)))))else (e0)
noncomputable def aY {R:Type}:er R
  | 0,_,_,_,_,_,_=>none
  | n+1,mQ,mR,nI,xl,e0,e1=>pe (fun mQ mR nI xl=>aY n mQ mR nI xl e0 e1) mQ mR nI xl e0 e1
noncomputable def ig:Hint := { live := [0,1,7,8],own := [],rows := [],cells := [],drop := [],out := [4] }
abbrev db:Type:=(List ak) × ak × Int × Int
noncomputable def gK:db→St:=fun d=>⟨[.sl .str d.1 .no, .str d.2.1, .undef, .undef, .undef, .undef, .undef, .int .i64 d.2.2.1, .int .i64 d.2.2.2, .undef, .undef, .undef, .undef, .undef, .undef, .undef, .undef, .undef, .undef], []⟩
noncomputable def kW {R:Type} (K:Ex→St→Option R):Option R:=K (.exit 0) ⟨[.undef, .undef, .undef, .undef, .undef, .undef, .undef, .undef, .undef, .undef, .undef, .undef, .undef, .undef, .undef, .undef, .undef, .undef, .undef], []⟩
noncomputable def kX {R:Type} (K:Ex→St→Option R) (q0:Int):Option R:=K (.ret) ⟨[.undef, .undef, .undef, .undef, .int .i64 q0, .undef, .undef, .undef, .undef, .undef, .undef, .undef, .undef, .undef, .undef, .undef, .undef, .undef, .undef], []⟩
noncomputable def lC {R:Type} (K:Ex→St→Option R) (rc:db→Option R) (d:db):Option R:=pe (fun z0 z1 z2 z3=>rc (z0,z1,z2,z3)) d.1 d.2.1 d.2.2.1 d.2.2.2 (kW K) (kX K)
noncomputable def eF {R:Type} (K:Ex→St→Option R) (n:Nat) (d:db):Option R:=aY n d.1 d.2.1 d.2.2.1 d.2.2.2 (kW K) (kX K)
abbrev dd:List bJ := [.leaf (.sl .str), .leaf (.str), .leaf (.undef), .leaf (.undef), .leaf (.undef), .leaf (.undef), .leaf (.undef), .leaf (.int .i64), .leaf (.int .i64), .leaf (.undef), .leaf (.undef), .leaf (.undef), .leaf (.undef), .leaf (.undef), .leaf (.undef), .leaf (.undef), .leaf (.undef), .leaf (.undef), .leaf (.undef)]
abbrev de:List aF := []
noncomputable def lD (x:bJ.au dd) (y:aF.au de):Nat:=(List.length x.1+List.length x.2.1+Int.natAbs x.2.2.2.2.2.2.2.1+Int.natAbs x.2.2.2.2.2.2.2.2.1+64)
noncomputable def lE (x:bJ.au dd) (y:aF.au de):db:=(x.1,x.2.1,x.2.2.2.2.2.2.2.1,x.2.2.2.2.2.2.2.2.1)
noncomputable def kY {R:Type} (L:er R):bJ.au dd→aF.au de→(Ex→St→Option R)→Option R:=fun x y K=>L (lD x y) x.1 x.2.1 x.2.2.2.2.2.2.2.1 x.2.2.2.2.2.2.2.2.1 (kW K) (kX K)
noncomputable def hU (R:Type) (aY:er R):Nat→Option (Hint × cd R):=fun i=>match i with
  | 2=>some (ig,(gq dd de (kY aY) qg))
  | _=>none

theorem vv {R:Type} (aY:er R) (K:Ex→St→Option R) (rc:St→Option R) (d:db):roundOf tt (eK R) (hU R aY) 0 ((aO (aI Tryz.f142)).getD 0 .skip) ig (gK d) rc K=lC K (fun d=>rc (gK d)) d:=by kernel_rfl
theorem tT {R:Type} (K:Ex→St→Option R) (n:Nat) (d:db):eF K (n+1) d=lC K (eF K n) d:=by kernel_rfl
theorem tU {R:Type} (K:Ex→St→Option R) (d:db):eF K 0 d=none:=by kernel_rfl
theorem vw (x:bJ.au dd) (y:aF.au de):(⟨bJ.cL dd x,aF.cL de y⟩:St)=gK (lE x y):=by kernel_rfl
theorem vy {R:Type} (x:bJ.au dd) (y:aF.au de) (K:Ex→St→Option R):kY (aY) x y K=eF K (lD x y) (lE x y):=by kernel_rfl
theorem w7 {R:Type} (other:cd R) (ho:ph tt (eK R) (hU R aY) 0 ((aO (aI Tryz.f142)).getD 0 .skip) ig other):ph tt (eK R) (hU R aY) 0 ((aO (aI Tryz.f142)).getD 0 .skip) ig (gq dd de (kY (aY)) other) :=
  gQ (A:=eF) ho (kO gK (lC) (eF) (tU) (vv aY) (tT)) lD lE vw (vy)

noncomputable def rP {R:Type} (aY:er R) (x1:List ak) (x2:ak) (k0:Int→Option R):Option R :=
  aY (List.length x1+List.length x2+Int.natAbs (x1.length:Int)+Int.natAbs 0+64) x1 x2 (x1.length:Int) 0 (k0 (-1)) (fun y7=>k0 y7)
noncomputable def cK {R:Type}:gF R:=fun x1 x2 k0=>rP aY x1 x2 k0
theorem zF {R:Type} (aY:er R) (x1:List ak) (x2:ak) (k:V→ay→Option R):iq tt (eK R) (hU R aY) false Tryz.f142 (aI Tryz.f142) [.sl .str x1 .no, .str x2] [] k =
    rP aY x1 x2 (fun q0=>k (.int .i64 q0) []):=by kernel_rfl
theorem xq (R:Type):∀a∈aO (aI Tryz.f142),cG tt (eK R) (hU R aY) 0 a:=by
  refine bB 1 (by kernel_rfl) fun i hi => ?_
  match i,hi with
  | 0,_=>exact fT (by kernel_rfl) (w7 _ jA)
  | n+1,hi=>omega
theorem yi (R:Type) (other:ax.Spec R) (ho:ax.Spec.Ok Tryz.prog 142 other):ax.Spec.Ok Tryz.prog 142 (az kA kB (qO cK) other) :=
  bm ho (bc TT mixed (zf R) (keep:=false) rfl rfl rfl rfl 0 (xq R)) fun (x:bJ.au kA) (y:aF.au kB) k=>zF aY x.1 x.2.1 k

/-! ### slices.Contains[[]string,string] -/
abbrev fP (R:Type):Type:=(List ak)→ak→(Bool→Option R)→Option R
abbrev jb:List bJ := [.leaf (.sl .str), .leaf (.str)]
abbrev jc:List aF := []
noncomputable def pg {R:Type} (fn:fP R):bJ.au jb→aF.au jc→(V→ay→Option R)→Option R:=fun x y k=>fn x.1 x.2.1 (fun q0=>k (.bool q0) [])
noncomputable def jd (R:Type) (cK:gF R):Env R:=fun i=>match i with
  | 142=>some (true,(az kA kB (qO cK) aZ))
  | _=>none
theorem w8 (R:Type):po Tryz.prog (jd R cK):=by
  intro i b sp h
  unfold jd at h
  split at h
  · cases h; exact ⟨(yi R _ (aM _)),fun h=>nomatch h⟩
  · cases h

noncomputable def pW (R:Type):Nat→Option (Hint × cd R):=fun i=>match i with
  | _=>none

noncomputable def pX {R:Type} (cK:gF R) (x1:List ak) (x2:ak) (k0:Bool→Option R):Option R :=
  cK x1 x2 (fun y3=>k0 (decide (y3≥(0:Int))))
noncomputable def cm {R:Type}:fP R:=fun x1 x2 k0=>pX cK x1 x2 k0
theorem xr {R:Type} (cK:gF R) (x1:List ak) (x2:ak) (k:V→ay→Option R):iq tt (jd R cK) (pW R) false Tryz.f123 (aI Tryz.f123) [.sl .str x1 .no, .str x2] [] k =
    pX cK x1 x2 (fun q0=>k (.bool q0) []):=by kernel_rfl
theorem vz (R:Type):∀a∈aO (aI Tryz.f123),cG tt (jd R cK) (pW R) 0 a:=by
  refine bB 0 (by kernel_rfl) fun i hi => ?_
  omega
theorem v8 (R:Type) (other:ax.Spec R) (ho:ax.Spec.Ok Tryz.prog 123 other):ax.Spec.Ok Tryz.prog 123 (az jb jc (pg cm) other) :=
  bm ho (bc TT mixed (w8 R) (keep:=false) rfl rfl rfl rfl 0 (vz R)) fun (x:bJ.au jb) (y:aF.au jc) k=>xr cK x.1 x.2.1 k

/-! ### (*humpyard/json.parser).name -/
abbrev jM (R:Type):Type:=(List ak)→(List Token)→Int→(ak→(List Token)→Int→Option R)→Option R
abbrev mK:List bJ := [.leaf (.ptr 0 0), .leaf (.Mp .str 1)]
abbrev mL:List aF := [.cells [.sl .token, .int .i64], .tok]
noncomputable def uD {R:Type} (fn:jM R):bJ.au mK→aF.au mL→(V→ay→Option R)→Option R:=fun x y k=>fn x.2.1 y.1.1 y.1.2.1 (fun q0 q1 q2=>k (.str q0) [.cells [.sl .token q1 .no, .int .i64 q2], .tok])
noncomputable def mM (R:Type) (ao:bQ R) (aB:da R) (cm:fP R):Env R:=fun i=>match i with
  | 43=>some (false,(az fY fZ (jL ao) aZ))
  | 122=>some (false,(az kf kg (oZ aB) aZ))
  | 123=>some (true,(az jb jc (pg cm) aZ))
  | _=>none
theorem BO (R:Type):po Tryz.prog (mM R ao aB cm):=by
  intro i b sp h
  unfold mM at h
  split at h
  · cases h; exact ⟨(kV R _ (aM _)),fun _ h=>nomatch h⟩
  · cases h; exact ⟨(sG R _ (aM _)),fun _ h=>nomatch h⟩
  · cases h; exact ⟨(v8 R _ (aM _)),fun h=>nomatch h⟩
  · cases h

noncomputable def vM (R:Type):Nat→Option (Hint × cd R):=fun i=>match i with
  | _=>none

noncomputable def vN {R:Type} (ao:bQ R) (aB:da R) (cm:fP R) (x1:List ak) (x2:List Token) (x3:Int) (k0:ak→(List Token)→Int→Option R):Option R :=
  cR (decide ((0:Int)<x2.length)) (bif ((x2.getD 0 (Ty.cg .token)).kind != 2)then (ao 40 x2 x3 (fun y4 y5=>k0 ((x2.getD 0 (Ty.cg .token)).text) y4 y5))else (cm x1 ((x2.getD 0 (Ty.cg .token)).text) (fun y6=>bif y6 then (ao 42 x2 x3 (fun y7 y8=>k0 ((x2.getD 0 (Ty.cg .token)).text) y7 y8))else (cR (decide ((1:Int)≤x2.length)) (aB ([58]:ak) (x2.drop 1) x3 (fun y9 B5 B6=>bif (!y9)then (ao 40 B5 B6 (fun HM Il=>k0 ((x2.getD 0 (Ty.cg .token)).text) HM Il))else (k0 ((x2.getD 0 (Ty.cg .token)).text) B5 B6)))))))
noncomputable def dx {R:Type}:jM R:=fun x1 x2 x3 k0=>vN ao aB cm x1 x2 x3 k0
theorem Cq {R:Type} (ao:bQ R) (aB:da R) (cm:fP R) (x1:List ak) (x2:List Token) (x3:Int) (k:V→ay→Option R):iq (tt.mode [.json]) (mM R ao aB cm) (vM R) false Tryz.f90 (aI Tryz.f90) [.ptr 0 0, .sl .str x1 (.own 1)] [.cells [.sl .token x2 .no, .int .i64 x3], .tok] k =
    vN ao aB cm x1 x2 x3 (fun q0 q1 q2=>k (.str q0) [.cells [.sl .token q1 .no, .int .i64 q2], .tok]):=by kernel_rfl
theorem AQ (R:Type):∀a∈aO (aI Tryz.f90),cG (tt.mode [.json]) (mM R ao aB cm) (vM R) 2 a:=by
  refine bB 0 (by kernel_rfl) fun i hi => ?_
  omega
theorem Bp (R:Type) (other:ax.Spec R) (ho:ax.Spec.Ok Tryz.prog 90 other):ax.Spec.Ok Tryz.prog 90 (az mK mL (uD dx) other) :=
  bm ho (bc (TT.mode [.json]) mixed (BO R) (keep:=false) rfl rfl rfl rfl 2 (AQ R)) fun (x:bJ.au mK) (y:aF.au mL) k=>Cq ao aB cm x.2.1 y.1.1 y.1.2.1 k

end Go.Proofs.YtmlkkgfenfdndaaGreatDoor

/-
  Functions of the program as pure Lean functions, and the ties; printed by wip/tools/emit.py.
-/
set_option maxRecDepth 100000
namespace Go.Proofs.YtmlkkgfenfdndaaGreatDoor
open Go Go.ax

/-! ### (*humpyard/json.parser).value -/
abbrev aH (R:Type):Type:=Int→(List Token)→Int→(Json→(List Token)→Int→Option R)→Option R
abbrev ca:List bJ := [.leaf (.ptr 0 0), .leaf (.int .i64)]
abbrev cb:List aF := [.cells [.sl .token, .int .i64]]
noncomputable def bE {R:Type} (fn:aH R):bJ.au ca→aF.au cb→(V→ay→Option R)→Option R:=fun x y k=>fn x.2.1 y.1.1 y.1.2.1 (fun q0 q1 q2=>k (.agg [.int .i64 q0.kind, .int .i64 q0.num.aw, .int .i64 q0.num.exp, .str q0.text, .sl .str q0.names .no, .sl .json q0.items .no]) [.cells [.sl .token q1 .no, .int .i64 q2]])
/-! ### (*humpyard/json.parser).parts$1 -/
abbrev eM (R:Type):Type:=Bool→Int→Int→Int→ak→(List ak)→Nat→Int→(List Json)→(List Token)→Int→(Bool→Int→Int→Int→ak→(List ak)→Nat→Int→(List Token)→Int→(List Json)→Option R)→(Bool→Int→Int→Int→ak→(List ak)→Nat→Int→(List Json)→(List Token)→Int→Option R)→(Bool→Int→Int→Int→ak→(List ak)→Nat→Int→(List Token)→Int→(List Json)→Option R)→(Bool→Int→Int→Int→ak→(List ak)→Nat→Int→(List Json)→(List Token)→Int→Option R)→Option R
abbrev kZ:List bJ := [.leaf (.ptr 0 0), .leaf (.ptr 1 0), .leaf (.ptr 2 0), .leaf (.ptr 3 0)]
abbrev k6:List aF := [.cells [.bool], .cells [.int .i64, .int .i64, .int .i64, .str, .Mp .str 4, .row 5], .cells [.ptr 6 0], .cells [.int .i64], .tok, .row .json, .cells [.sl .token, .int .i64]]
noncomputable def rQ {R:Type} (fn:eM R):bJ.au kZ→aF.au k6→(V→ay→Option R)→Option R:=fun x y k=>fn y.1.1 y.2.1.1 y.2.1.2.1 y.2.1.2.2.1 y.2.1.2.2.2.1 y.2.1.2.2.2.2.1 y.2.1.2.2.2.2.2.1 y.2.2.2.1.1 y.2.2.2.2.2.1 y.2.2.2.2.2.2.1.1 y.2.2.2.2.2.2.1.2.1 (fun q0 q1 q2 q3 q4 q5 q6 q7 q8 q9 L4=>k (.tuple []) [.cells [.bool q0], .cells [.int .i64 q1, .int .i64 q2, .int .i64 q3, .str q4, .sl .str q5 (.own 7), .row 8 q6], .cells [.ptr 6 0], .cells [.int .i64 q7], .dead, .dead, .cells [.sl .token q8 .no, .int .i64 q9], .tok, .row .json L4]) (fun q0 q1 q2 q3 q4 q5 q6 q7 q8 q9 L4=>k (.tuple []) [.cells [.bool q0], .cells [.int .i64 q1, .int .i64 q2, .int .i64 q3, .str q4, .sl .str q5 (.own 7), .row 5 q6], .cells [.ptr 6 0], .cells [.int .i64 q7], .dead, .row .json q8, .cells [.sl .token q9 .no, .int .i64 L4], .tok]) (fun q0 q1 q2 q3 q4 q5 q6 q7 q8 q9 L4=>k (.tuple []) [.cells [.bool q0], .cells [.int .i64 q1, .int .i64 q2, .int .i64 q3, .str q4, .sl .str q5 (.own 4), .row 7 q6], .cells [.ptr 6 0], .cells [.int .i64 q7], .tok, .dead, .cells [.sl .token q8 .no, .int .i64 q9], .row .json L4]) (fun q0 q1 q2 q3 q4 q5 q6 q7 q8 q9 L4=>k (.tuple []) [.cells [.bool q0], .cells [.int .i64 q1, .int .i64 q2, .int .i64 q3, .str q4, .sl .str q5 (.own 4), .row 5 q6], .cells [.ptr 6 0], .cells [.int .i64 q7], .tok, .row .json q8, .cells [.sl .token q9 .no, .int .i64 L4]])
noncomputable def k7 (R:Type) (dx:jM R) (ae:aH R):Env R:=fun i=>match i with
  | 90=>some (false,(az mK mL (uD dx) aZ))
  | 42=>some (false,(az ca cb (bE ae) aZ))
  | _=>none
theorem zG (R:Type) (ae:aH R) (bL:ax.Spec.Ok Tryz.prog 42 (az ca cb (bE ae) aZ)):po Tryz.prog (k7 R dx ae):=by
  intro i b sp h
  unfold k7 at h
  split at h
  · cases h; exact ⟨(Bp R _ (aM _)),fun _ h=>nomatch h⟩
  · cases h; exact ⟨bL,fun _ h=>nomatch h⟩
  · cases h

noncomputable def sH (R:Type):Nat→Option (Hint × cd R):=fun i=>match i with
  | _=>none

noncomputable def sI {R:Type} (dx:jM R) (ae:aH R) (x1:Bool) (x2:Int) (x3:Int) (x4:Int) (x5:ak) (x6:List ak) (x7:Nat) (x8:Int) (x9:List Json) (Bq:List Token) (QZ:Int) (k0:Bool→Int→Int→Int→ak→(List ak)→Nat→Int→(List Token)→Int→(List Json)→Option R) (k1:Bool→Int→Int→Int→ak→(List ak)→Nat→Int→(List Json)→(List Token)→Int→Option R) (k2:Bool→Int→Int→Int→ak→(List ak)→Nat→Int→(List Token)→Int→(List Json)→Option R) (k3:Bool→Int→Int→Int→ak→(List ak)→Nat→Int→(List Json)→(List Token)→Int→Option R):Option R :=
  bif x1 then (dx x6 Bq QZ (fun HM Il GK=>cR (decide ((x6.length+1)*16≤140737488355328)) (bif (GK==0)then (ae (IntKind.i64.wrap (x8+1)) Il GK (fun JG MR QY=>cR (decide ((x9.length+1)*88≤140737488355328)) (cR (decide ((0:Int)≤(x7:Int))&&decide ((x7:Int)<(x9.length+1))) (cR (decide ((x7:Int).toNat<(x9++([(⟨0,⟨0,0⟩,([]:ak),([]:List ak),([]:List Json)⟩:Json)]:List Json)).length)) (k0 x1 x2 x3 x4 x5 (x6++([HM]:List ak)) (x9.length+1) x8 MR QY ((x9++([(⟨0,⟨0,0⟩,([]:ak),([]:List ak),([]:List Json)⟩:Json)]:List Json)).set ((x7:Int).toNat) (⟨JG.kind,⟨JG.num.aw,JG.num.exp⟩,JG.text,JG.names,JG.items⟩:Json)))))))else (k1 x1 x2 x3 x4 x5 (x6++([HM]:List ak)) x7 x8 x9 Il GK))))else (bif (QZ==0)then (ae (IntKind.i64.wrap (x8+1)) Bq QZ (fun Mq XC Td=>cR (decide ((x9.length+1)*88≤140737488355328)) (cR (decide ((0:Int)≤(x7:Int))&&decide ((x7:Int)<(x9.length+1))) (cR (decide ((x7:Int).toNat<(x9++([(⟨0,⟨0,0⟩,([]:ak),([]:List ak),([]:List Json)⟩:Json)]:List Json)).length)) (k2 x1 x2 x3 x4 x5 x6 (x9.length+1) x8 XC Td ((x9++([(⟨0,⟨0,0⟩,([]:ak),([]:List ak),([]:List Json)⟩:Json)]:List Json)).set ((x7:Int).toNat) (⟨Mq.kind,⟨Mq.num.aw,Mq.num.exp⟩,Mq.text,Mq.names,Mq.items⟩:Json)))))))else (k3 x1 x2 x3 x4 x5 x6 x7 x8 x9 Bq QZ))
noncomputable def bp {R:Type} (ae:aH R):eM R:=fun x1 x2 x3 x4 x5 x6 x7 x8 x9 Bq QZ k0 k1 k2 k3=>sI dx ae x1 x2 x3 x4 x5 x6 x7 x8 x9 Bq QZ k0 k1 k2 k3
theorem AR {R:Type} (dx:jM R) (ae:aH R) (x1:Bool) (x2:Int) (x3:Int) (x4:Int) (x5:ak) (x6:List ak) (x7:Nat) (x8:Int) (x9:List Json) (Bq:List Token) (QZ:Int) (k:V→ay→Option R):iq (tt.mode [.json]) (k7 R dx ae) (sH R) false Tryz.f89 (aI Tryz.f89) [.ptr 0 0, .ptr 1 0, .ptr 2 0, .ptr 3 0] [.cells [.bool x1], .cells [.int .i64 x2, .int .i64 x3, .int .i64 x4, .str x5, .sl .str x6 (.own 4), .row 5 x7], .cells [.ptr 6 0], .cells [.int .i64 x8], .tok, .row .json x9, .cells [.sl .token Bq .no, .int .i64 QZ]] k =
    sI dx ae x1 x2 x3 x4 x5 x6 x7 x8 x9 Bq QZ (fun q0 q1 q2 q3 q4 q5 q6 q7 q8 q9 L4=>k (.tuple []) [.cells [.bool q0], .cells [.int .i64 q1, .int .i64 q2, .int .i64 q3, .str q4, .sl .str q5 (.own 7), .row 8 q6], .cells [.ptr 6 0], .cells [.int .i64 q7], .dead, .dead, .cells [.sl .token q8 .no, .int .i64 q9], .tok, .row .json L4]) (fun q0 q1 q2 q3 q4 q5 q6 q7 q8 q9 L4=>k (.tuple []) [.cells [.bool q0], .cells [.int .i64 q1, .int .i64 q2, .int .i64 q3, .str q4, .sl .str q5 (.own 7), .row 5 q6], .cells [.ptr 6 0], .cells [.int .i64 q7], .dead, .row .json q8, .cells [.sl .token q9 .no, .int .i64 L4], .tok]) (fun q0 q1 q2 q3 q4 q5 q6 q7 q8 q9 L4=>k (.tuple []) [.cells [.bool q0], .cells [.int .i64 q1, .int .i64 q2, .int .i64 q3, .str q4, .sl .str q5 (.own 4), .row 7 q6], .cells [.ptr 6 0], .cells [.int .i64 q7], .tok, .dead, .cells [.sl .token q8 .no, .int .i64 q9], .row .json L4]) (fun q0 q1 q2 q3 q4 q5 q6 q7 q8 q9 L4=>k (.tuple []) [.cells [.bool q0], .cells [.int .i64 q1, .int .i64 q2, .int .i64 q3, .str q4, .sl .str q5 (.own 4), .row 5 q6], .cells [.ptr 6 0], .cells [.int .i64 q7], .tok, .row .json q8, .cells [.sl .token q9 .no, .int .i64 L4]]):=by kernel_rfl
theorem yj (R:Type) (ae:aH R):∀a∈aO (aI Tryz.f89),cG (tt.mode [.json]) (k7 R dx ae) (sH R) 7 a:=by
  refine bB 0 (by kernel_rfl) fun i hi => ?_
  omega
theorem zg (R:Type) (ae:aH R) (bL:ax.Spec.Ok Tryz.prog 42 (az ca cb (bE ae) aZ)) (other:ax.Spec R) (ho:ax.Spec.Ok Tryz.prog 89 other):ax.Spec.Ok Tryz.prog 89 (az kZ k6 (rQ (bp ae)) other) :=
  bm ho (bc (TT.mode [.json]) mixed (zG R ae bL) (keep:=false) rfl rfl rfl rfl 7 (yj R ae)) fun (x:bJ.au kZ) (y:aF.au k6) k=>AR dx ae y.1.1 y.2.1.1 y.2.1.2.1 y.2.1.2.2.1 y.2.1.2.2.2.1 y.2.1.2.2.2.2.1 y.2.1.2.2.2.2.2.1 y.2.2.2.1.1 y.2.2.2.2.2.1 y.2.2.2.2.2.2.1.1 y.2.2.2.2.2.2.1.2.1 k

/-! ### (*humpyard/json.parser).list -/
abbrev jN (R:Type):Type:=ak→(List Token)→Int→Bool→Int→Int→Int→ak→Int→((List Token)→Int→Bool→Int→Int→Int→ak→Int→Option R)→((List Token)→Int→Bool→Int→Int→Int→ak→(List ak)→Nat→Int→(List Json)→Option R)→Option R
abbrev mN:List bJ := [.leaf (.ptr 0 0), .leaf (.str), .func 89 [] [.ptr 1 0, .ptr 2 0, .ptr 3 0, .ptr 4 0]]
abbrev mO:List aF := [.cells [.sl .token, .int .i64], .cells [.bool], .cells [.int .i64, .int .i64, .int .i64, .str, .cw, .cw], .cells [.ptr 0 0], .cells [.int .i64]]
noncomputable def uE {R:Type} (fn:jN R):bJ.au mN→aF.au mO→(V→ay→Option R)→Option R:=fun x y k=>fn x.2.1 y.1.1 y.1.2.1 y.2.1.1 y.2.2.1.1 y.2.2.1.2.1 y.2.2.1.2.2.1 y.2.2.1.2.2.2.1 y.2.2.2.2.1.1 (fun q0 q1 q2 q3 q4 q5 q6 q7=>k (.tuple []) [.cells [.sl .token q0 .no, .int .i64 q1], .cells [.bool q2], .cells [.int .i64 q3, .int .i64 q4, .int .i64 q5, .str q6, .cw, .cw], .cells [.ptr 0 0], .cells [.int .i64 q7]]) (fun q0 q1 q2 q3 q4 q5 q6 q7 q8 q9 L4=>k (.tuple []) [.cells [.sl .token q0 .no, .int .i64 q1], .cells [.bool q2], .cells [.int .i64 q3, .int .i64 q4, .int .i64 q5, .str q6, .sl .str q7 (.own 5), .row 6 q8], .cells [.ptr 0 0], .cells [.int .i64 q9], .tok, .row .json L4])
abbrev fi (R:Type):Type:=Nat→ak→(List Token)→Int→Bool→Int→Int→Int→ak→(List ak)→Nat→Int→(List Json)→((List Token)→Int→Bool→Int→Int→Int→ak→(List ak)→Nat→Int→(List Json)→Option R)→Option R
noncomputable def ga (R:Type) (ao:bQ R) (bp:eM R) (aB:da R):Env R:=fun i=>match i with
  | 43=>some (false,(az fY fZ (jL ao) aZ))
  | 89=>some (false,(az kZ k6 (rQ bp) aZ))
  | 122=>some (false,(az kf kg (oZ aB) aZ))
  | _=>none
theorem BP (R:Type) (ae:aH R) (bL:ax.Spec.Ok Tryz.prog 42 (az ca cb (bE ae) aZ)):po Tryz.prog (ga R ao (bp ae) aB):=by
  intro i b sp h
  unfold ga at h
  split at h
  · cases h; exact ⟨(kV R _ (aM _)),fun _ h=>nomatch h⟩
  · cases h; exact ⟨(zg R ae bL _ (aM _)),fun _ h=>nomatch h⟩
  · cases h; exact ⟨(sG R _ (aM _)),fun _ h=>nomatch h⟩
  · cases h

noncomputable def rR {R:Type} (ao:bQ R) (bp:eM R) (aB:da R) (gm:ak→(List Token)→Int→Bool→Int→Int→Int→ak→(List ak)→Nat→Int→(List Json)→Option R) (Su:ak) (Tc:List Token) (pj:Int) (sK:Bool) (mz:Int) (sL:Int) (Cb:Int) (zT:ak) (x21:List ak) (XD:Nat) (Zt:Int) (Vr:List Json) (e0:(List Token)→Int→Bool→Int→Int→Int→ak→(List ak)→Nat→Int→(List Json)→Option R):Option R :=
  bp sK mz sL Cb zT x21 XD Zt Vr Tc pj (fun JH JI I3 Im MT Mr OS Ms y33 y34 y35=>bif (y34 != 0)then (e0 y33 y34 JH JI I3 Im MT Mr OS Ms y35)else (aB Su y33 y34 (fun y69 y70 y71=>bif y69 then (e0 y70 y71 JH JI I3 Im MT Mr OS Ms y35)else (aB ([44]:ak) y70 y71 (fun y75 y76 y77=>bif (!y75)then (ao 40 y76 y77 (fun y78 y79=>e0 y78 y79 JH JI I3 Im MT Mr OS Ms y35))else (gm Su y76 y77 JH JI I3 Im MT Mr OS Ms y35)))))) (fun y36 YG y38 y39 y40 y41 Sj Vp Vq Zs Zv=>bif (Zv != 0)then (e0 Zs Zv y36 YG y38 y39 y40 y41 Sj Vp Vq)else (aB Su Zs Zv (fun y80 y81 y82=>bif y80 then (e0 y81 y82 y36 YG y38 y39 y40 y41 Sj Vp Vq)else (aB ([44]:ak) y81 y82 (fun y86 y87 y88=>bif (!y86)then (ao 40 y87 y88 (fun y89 y90=>e0 y89 y90 y36 YG y38 y39 y40 y41 Sj Vp Vq))else (gm Su y87 y88 y36 YG y38 y39 y40 y41 Sj Vp Vq)))))) (fun MW Vt XE XF XG Vu XH XI Zw UQ UR=>bif (UQ != 0)then (e0 Zw UQ MW Vt XE XF XG Vu XH XI UR)else (aB Su Zw UQ (fun y91 y92 y93=>bif y91 then (e0 y92 y93 MW Vt XE XF XG Vu XH XI UR)else (aB ([44]:ak) y92 y93 (fun y97 y98 y99=>bif (!y97)then (ao 40 y98 y99 (fun y100 y101=>e0 y100 y101 MW Vt XE XF XG Vu XH XI UR))else (gm Su y98 y99 MW Vt XE XF XG Vu XH XI UR)))))) (fun US Sk Ta y61 y62 y63 y64 y65 y66 y67 y68=>bif (y68 != 0)then (e0 y67 y68 US Sk Ta y61 y62 y63 y64 y65 y66)else (aB Su y67 y68 (fun y102 y103 y104=>bif y102 then (e0 y103 y104 US Sk Ta y61 y62 y63 y64 y65 y66)else (aB ([44]:ak) y103 y104 (fun y108 y109 y110=>bif (!y108)then (ao 40 y109 y110 (fun y111 y112=>e0 y111 y112 US Sk Ta y61 y62 y63 y64 y65 y66))else (gm Su y109 y110 US Sk Ta y61 y62 y63 y64 y65 y66))))))
noncomputable def bl {R:Type} (ae:aH R):fi R
  | 0,_,_,_,_,_,_,_,_,_,_,_,_,_=>none
  | n+1,mQ,mR,nI,xl,FE,FF,OU,OV,OW,OX,DC,GX,e0=>rR ao (bp ae) aB (fun mQ mR nI xl FE FF OU OV OW OX DC GX=>bl ae n mQ mR nI xl FE FF OU OV OW OX DC GX e0) mQ mR nI xl FE FF OU OV OW OX DC GX e0
noncomputable def kC:Hint := { live := [0,1,2],own := [],rows := [],cells := [(2,4, .str,false),(2,5, .json,true)],drop := [],out := [] }
abbrev dO:Type:=ak × (List Token) × Int × Bool × Int × Int × Int × ak × (List ak) × Nat × Int × (List Json)
noncomputable def jv:dO→St:=fun d=>⟨[.ptr 0 0, .str d.1, .func 89 [] [.ptr 1 0, .ptr 2 0, .ptr 3 0, .ptr 4 0], .undef, .undef, .undef, .undef, .undef, .undef, .undef, .undef, .undef, .undef, .undef, .undef, .undef, .undef, .undef, .undef, .undef, .undef, .undef, .undef, .undef, .undef, .undef], [.cells [.sl .token d.2.1 .no, .int .i64 d.2.2.1], .cells [.bool d.2.2.2.1], .cells [.int .i64 d.2.2.2.2.1, .int .i64 d.2.2.2.2.2.1, .int .i64 d.2.2.2.2.2.2.1, .str d.2.2.2.2.2.2.2.1, .sl .str d.2.2.2.2.2.2.2.2.1 (.own 5), .row 6 d.2.2.2.2.2.2.2.2.2.1], .cells [.ptr 0 0], .cells [.int .i64 d.2.2.2.2.2.2.2.2.2.2.1], .tok, .row .json d.2.2.2.2.2.2.2.2.2.2.2]⟩
noncomputable def mU {R:Type} (K:Ex→St→Option R) (q0:List Token) (q1:Int) (q2:Bool) (q3:Int) (q4:Int) (q5:Int) (q6:ak) (q7:List ak) (q8:Nat) (q9:Int) (L4:List Json):Option R:=K (.ret) ⟨[.undef, .undef, .undef, .undef, .undef, .undef, .undef, .undef, .undef, .undef, .undef, .undef, .undef, .undef, .undef, .undef, .undef, .undef, .undef, .undef, .undef, .undef, .undef, .undef, .undef, .undef], [.cells [.sl .token q0 .no, .int .i64 q1], .cells [.bool q2], .cells [.int .i64 q3, .int .i64 q4, .int .i64 q5, .str q6, .sl .str q7 (.own 5), .row 6 q8], .cells [.ptr 0 0], .cells [.int .i64 q9], .tok, .row .json L4]⟩
noncomputable def nh {R:Type} (ao:bQ R) (bp:eM R) (aB:da R) (K:Ex→St→Option R) (rc:dO→Option R) (d:dO):Option R:=rR ao bp aB (fun z0 z1 z2 z3 z4 z5 z6 z7 z8 z9 OY vn=>rc (z0,z1,z2,z3,z4,z5,z6,z7,z8,z9,OY,vn)) d.1 d.2.1 d.2.2.1 d.2.2.2.1 d.2.2.2.2.1 d.2.2.2.2.2.1 d.2.2.2.2.2.2.1 d.2.2.2.2.2.2.2.1 d.2.2.2.2.2.2.2.2.1 d.2.2.2.2.2.2.2.2.2.1 d.2.2.2.2.2.2.2.2.2.2.1 d.2.2.2.2.2.2.2.2.2.2.2 (mU K)
noncomputable def fL {R:Type} (ae:aH R) (K:Ex→St→Option R) (n:Nat) (d:dO):Option R:=bl ae n d.1 d.2.1 d.2.2.1 d.2.2.2.1 d.2.2.2.2.1 d.2.2.2.2.2.1 d.2.2.2.2.2.2.1 d.2.2.2.2.2.2.2.1 d.2.2.2.2.2.2.2.2.1 d.2.2.2.2.2.2.2.2.2.1 d.2.2.2.2.2.2.2.2.2.2.1 d.2.2.2.2.2.2.2.2.2.2.2 (mU K)
abbrev dP:List bJ := [.leaf (.ptr 0 0), .leaf (.str), .func 89 [] [.ptr 1 0, .ptr 2 0, .ptr 3 0, .ptr 4 0], .leaf (.undef), .leaf (.undef), .leaf (.undef), .leaf (.undef), .leaf (.undef), .leaf (.undef), .leaf (.undef), .leaf (.undef), .leaf (.undef), .leaf (.undef), .leaf (.undef), .leaf (.undef), .leaf (.undef), .leaf (.undef), .leaf (.undef), .leaf (.undef), .leaf (.undef), .leaf (.undef), .leaf (.undef), .leaf (.undef), .leaf (.undef), .leaf (.undef), .leaf (.undef)]
abbrev dQ:List aF := [.cells [.sl .token, .int .i64], .cells [.bool], .cells [.int .i64, .int .i64, .int .i64, .str, .Mp .str 5, .row 6], .cells [.ptr 0 0], .cells [.int .i64], .tok, .row .json]
noncomputable def ni (x:bJ.au dP) (y:aF.au dQ):Nat:=(List.length x.2.1+List.length y.1.1+Int.natAbs y.1.2.1+Int.natAbs y.2.2.1.1+Int.natAbs y.2.2.1.2.1+Int.natAbs y.2.2.1.2.2.1+List.length y.2.2.1.2.2.2.1+List.length y.2.2.1.2.2.2.2.1+Int.natAbs y.2.2.2.2.1.1+List.length y.2.2.2.2.2.2.1+64)
noncomputable def nj (x:bJ.au dP) (y:aF.au dQ):dO:=(x.2.1,y.1.1,y.1.2.1,y.2.1.1,y.2.2.1.1,y.2.2.1.2.1,y.2.2.1.2.2.1,y.2.2.1.2.2.2.1,y.2.2.1.2.2.2.2.1,y.2.2.1.2.2.2.2.2.1,y.2.2.2.2.1.1,y.2.2.2.2.2.2.1)
noncomputable def mV {R:Type} (L:fi R):bJ.au dP→aF.au dQ→(Ex→St→Option R)→Option R:=fun x y K=>L (ni x y) x.2.1 y.1.1 y.1.2.1 y.2.1.1 y.2.2.1.1 y.2.2.1.2.1 y.2.2.1.2.2.1 y.2.2.1.2.2.2.1 y.2.2.1.2.2.2.2.1 y.2.2.1.2.2.2.2.2.1 y.2.2.2.2.1.1 y.2.2.2.2.2.2.1 (mU K)
noncomputable def kh (R:Type) (bl:fi R):Nat→Option (Hint × cd R):=fun i=>match i with
  | 1=>some (kC,(gq dP dQ (mV bl) qg))
  | _=>none

theorem yk {R:Type} (ao:bQ R) (bp:eM R) (aB:da R) (bl:fi R) (K:Ex→St→Option R) (rc:St→Option R) (d:dO):roundOf (tt.mode [.json]) (ga R ao bp aB) (kh R bl) 5 ((aO (aI Tryz.f88)).getD 0 .skip) kC (jv d) rc K=nh ao bp aB K (fun d=>rc (jv d)) d:=by kernel_rfl
theorem w9 {R:Type} (ae:aH R) (K:Ex→St→Option R) (n:Nat) (d:dO):fL ae K (n+1) d=nh ao (bp ae) aB K (fL ae K n) d:=by kernel_rfl
theorem xa {R:Type} (ae:aH R) (K:Ex→St→Option R) (d:dO):fL ae K 0 d=none:=by kernel_rfl
theorem yl (x:bJ.au dP) (y:aF.au dQ):(⟨bJ.cL dP x,aF.cL dQ y⟩:St)=jv (nj x y):=by kernel_rfl
theorem ym {R:Type} (ae:aH R) (x:bJ.au dP) (y:aF.au dQ) (K:Ex→St→Option R):mV (bl ae) x y K=fL ae K (ni x y) (nj x y):=by kernel_rfl
theorem zH {R:Type} (ae:aH R) (other:cd R) (ho:ph (tt.mode [.json]) (ga R ao (bp ae) aB) (kh R (bl ae)) 5 ((aO (aI Tryz.f88)).getD 0 .skip) kC other):ph (tt.mode [.json]) (ga R ao (bp ae) aB) (kh R (bl ae)) 5 ((aO (aI Tryz.f88)).getD 0 .skip) kC (gq dP dQ (mV (bl ae)) other) :=
  gQ (A:=fL ae) ho (kO jv (nh ao (bp ae) aB) (fL ae) (xa ae) (yk ao (bp ae) aB (bl ae)) (w9 ae)) ni nj yl (ym ae)

noncomputable def vO {R:Type} (aB:da R) (bl:fi R) (x1:ak) (x2:List Token) (x3:Int) (x4:Bool) (x5:Int) (x6:Int) (x7:Int) (x8:ak) (x9:Int) (k0:(List Token)→Int→Bool→Int→Int→Int→ak→Int→Option R) (k1:(List Token)→Int→Bool→Int→Int→Int→ak→(List ak)→Nat→Int→(List Json)→Option R):Option R :=
  aB x1 x2 x3 (fun B5 B6 HM=>bif B5 then (k0 B6 HM x4 x5 x6 x7 x8 x9)else (bl (List.length x1+List.length B6+Int.natAbs HM+Int.natAbs x5+Int.natAbs x6+Int.natAbs x7+List.length x8+List.length ([]:List ak)+Int.natAbs x9+List.length ([]:List Json)+64) x1 B6 HM x4 x5 x6 x7 x8 ([]:List ak) 0 x9 ([]:List Json) (fun y113 y114 y115 y116 y117 y118 y119 y120 y121 y122 y123=>k1 y113 y114 y115 y116 y117 y118 y119 y120 y121 y122 y123)))
noncomputable def c7 {R:Type} (ae:aH R):jN R:=fun x1 x2 x3 x4 x5 x6 x7 x8 x9 k0 k1=>vO aB (bl ae) x1 x2 x3 x4 x5 x6 x7 x8 x9 k0 k1
theorem Cr {R:Type} (ao:bQ R) (bp:eM R) (aB:da R) (bl:fi R) (x1:ak) (x2:List Token) (x3:Int) (x4:Bool) (x5:Int) (x6:Int) (x7:Int) (x8:ak) (x9:Int) (k:V→ay→Option R):iq (tt.mode [.json]) (ga R ao bp aB) (kh R bl) false Tryz.f88 (aI Tryz.f88) [.ptr 0 0, .str x1, .func 89 [] [.ptr 1 0, .ptr 2 0, .ptr 3 0, .ptr 4 0]] [.cells [.sl .token x2 .no, .int .i64 x3], .cells [.bool x4], .cells [.int .i64 x5, .int .i64 x6, .int .i64 x7, .str x8, .cw, .cw], .cells [.ptr 0 0], .cells [.int .i64 x9]] k =
    vO aB bl x1 x2 x3 x4 x5 x6 x7 x8 x9 (fun q0 q1 q2 q3 q4 q5 q6 q7=>k (.tuple []) [.cells [.sl .token q0 .no, .int .i64 q1], .cells [.bool q2], .cells [.int .i64 q3, .int .i64 q4, .int .i64 q5, .str q6, .cw, .cw], .cells [.ptr 0 0], .cells [.int .i64 q7]]) (fun q0 q1 q2 q3 q4 q5 q6 q7 q8 q9 L4=>k (.tuple []) [.cells [.sl .token q0 .no, .int .i64 q1], .cells [.bool q2], .cells [.int .i64 q3, .int .i64 q4, .int .i64 q5, .str q6, .sl .str q7 (.own 5), .row 6 q8], .cells [.ptr 0 0], .cells [.int .i64 q9], .tok, .row .json L4]):=by kernel_rfl
theorem AS (R:Type) (ae:aH R):∀a∈aO (aI Tryz.f88),cG (tt.mode [.json]) (ga R ao (bp ae) aB) (kh R (bl ae)) 5 a:=by
  refine bB 1 (by kernel_rfl) fun i hi => ?_
  match i,hi with
  | 0,_=>exact fT (by kernel_rfl) (zH ae _ jA)
  | n+1,hi=>omega
theorem Br (R:Type) (ae:aH R) (bL:ax.Spec.Ok Tryz.prog 42 (az ca cb (bE ae) aZ)) (other:ax.Spec R) (ho:ax.Spec.Ok Tryz.prog 88 other):ax.Spec.Ok Tryz.prog 88 (az mN mO (uE (c7 ae)) other) :=
  bm ho (bc (TT.mode [.json]) mixed (BP R ae bL) (keep:=false) rfl rfl rfl rfl 5 (AS R ae)) fun (x:bJ.au mN) (y:aF.au mO) k=>Cr ao (bp ae) aB (bl ae) x.2.1 y.1.1 y.1.2.1 y.2.1.1 y.2.2.1.1 y.2.2.1.2.1 y.2.2.1.2.2.1 y.2.2.1.2.2.2.1 y.2.2.2.2.1.1 k

/-! ### (*humpyard/json.parser).parts -/
abbrev jg (R:Type):Type:=Bool→Int→(List Token)→Int→(Json→(List Token)→Int→Option R)→Option R
abbrev me:List bJ := [.leaf (.ptr 0 0), .leaf (.bool), .leaf (.int .i64)]
abbrev mf:List aF := [.cells [.sl .token, .int .i64]]
noncomputable def tq {R:Type} (fn:jg R):bJ.au me→aF.au mf→(V→ay→Option R)→Option R:=fun x y k=>fn x.2.1 x.2.2.1 y.1.1 y.1.2.1 (fun q0 q1 q2=>k (.agg [.int .i64 q0.kind, .int .i64 q0.num.aw, .int .i64 q0.num.exp, .str q0.text, .sl .str q0.names .no, .sl .json q0.items .no]) [.cells [.sl .token q1 .no, .int .i64 q2]])
noncomputable def mg (R:Type) (c7:jN R):Env R:=fun i=>match i with
  | 88=>some (false,(az mN mO (uE c7) aZ))
  | _=>none
theorem Bs (R:Type) (ae:aH R) (bL:ax.Spec.Ok Tryz.prog 42 (az ca cb (bE ae) aZ)):po Tryz.prog (mg R (c7 ae)):=by
  intro i b sp h
  unfold mg at h
  split at h
  · cases h; exact ⟨(Br R ae bL _ (aM _)),fun _ h=>nomatch h⟩
  · cases h

noncomputable def uF (R:Type):Nat→Option (Hint × cd R):=fun i=>match i with
  | _=>none

noncomputable def uG {R:Type} (c7:jN R) (x1:Bool) (x2:Int) (x3:List Token) (x4:Int) (k0:Json→(List Token)→Int→Option R):Option R :=
  bif x1 then (c7 ([125]:ak) x3 x4 x1 7 0 0 ([]:ak) x2 (fun y5 y6 y7 y8 y9 B5 B6 HM=>k0 (⟨y8,⟨y9,B5⟩,B6,([]:List ak),([]:List Json)⟩:Json) y5 y6) (fun Il GK JG MR QY Mq XC Td MS Vo Zp=>k0 (⟨MR,⟨QY,Mq⟩,XC,Td,Zp⟩:Json) Il GK))else (c7 ([93]:ak) x3 x4 x1 6 0 0 ([]:ak) x2 (fun Zq JH JI I3 Im MT Mr OS=>k0 (⟨I3,⟨Im,MT⟩,Mr,([]:List ak),([]:List Json)⟩:Json) Zq JH) (fun Ms y33 y34 y35 y36 YG y38 y39 y40 y41 Sj=>k0 (⟨y35,⟨y36,YG⟩,y38,y39,Sj⟩:Json) Ms y33))
noncomputable def dm {R:Type} (ae:aH R):jg R:=fun x1 x2 x3 x4 k0=>uG (c7 ae) x1 x2 x3 x4 k0
theorem BQ {R:Type} (c7:jN R) (x1:Bool) (x2:Int) (x3:List Token) (x4:Int) (k:V→ay→Option R):iq (tt.mode [.json]) (mg R c7) (uF R) false Tryz.f64 (aI Tryz.f64) [.ptr 0 0, .bool x1, .int .i64 x2] [.cells [.sl .token x3 .no, .int .i64 x4]] k =
    uG c7 x1 x2 x3 x4 (fun q0 q1 q2=>k (.agg [.int .i64 q0.kind, .int .i64 q0.num.aw, .int .i64 q0.num.exp, .str q0.text, .sl .str q0.names .no, .sl .json q0.items .no]) [.cells [.sl .token q1 .no, .int .i64 q2]]):=by kernel_rfl
theorem zI (R:Type) (ae:aH R):∀a∈aO (aI Tryz.f64),cG (tt.mode [.json]) (mg R (c7 ae)) (uF R) 1 a:=by
  refine bB 0 (by kernel_rfl) fun i hi => ?_
  omega
theorem AT (R:Type) (ae:aH R) (bL:ax.Spec.Ok Tryz.prog 42 (az ca cb (bE ae) aZ)) (other:ax.Spec R) (ho:ax.Spec.Ok Tryz.prog 64 other):ax.Spec.Ok Tryz.prog 64 (az me mf (tq (dm ae)) other) :=
  bm ho (bc (TT.mode [.json]) mixed (Bs R ae bL) (keep:=false) rfl rfl rfl rfl 1 (zI R ae)) fun (x:bJ.au me) (y:aF.au mf) k=>BQ (c7 ae) x.2.1 x.2.2.1 y.1.1 y.1.2.1 k

noncomputable def mh (R:Type) (ao:bQ R) (dm:jg R):Env R:=fun i=>match i with
  | 43=>some (false,(az fY fZ (jL ao) aZ))
  | 64=>some (false,(az me mf (tq dm) aZ))
  | _=>none
theorem Bt (R:Type) (ae:aH R) (bL:ax.Spec.Ok Tryz.prog 42 (az ca cb (bE ae) aZ)):po Tryz.prog (mh R ao (dm ae)):=by
  intro i b sp h
  unfold mh at h
  split at h
  · cases h; exact ⟨(kV R _ (aM _)),fun _ h=>nomatch h⟩
  · cases h; exact ⟨(AT R ae bL _ (aM _)),fun _ h=>nomatch h⟩
  · cases h

noncomputable def uH (R:Type):Nat→Option (Hint × cd R):=fun i=>match i with
  | _=>none

noncomputable def uI {R:Type} (ao:bQ R) (dm:jg R) (x1:Int) (x2:List Token) (x3:Int) (k0:Json→(List Token)→Int→Option R):Option R :=
  cR (decide ((0:Int)<x2.length)) (let j20:=fun (z4:Bool)=>let j19:=fun (z9:List Token) (OY:Int)=>bif (OY != 0)then (k0 (⟨0,⟨0,0⟩,([]:ak),([]:List ak),([]:List Json)⟩:Json) z9 OY)else (cR (decide ((1:Int)≤z9.length)) (let j18:=bif ((x2.getD 0 (Ty.cg .token)).kind==3)then (k0 (⟨4,⟨(x2.getD 0 (Ty.cg .token)).num.aw,(x2.getD 0 (Ty.cg .token)).num.exp⟩,([]:ak),([]:List ak),([]:List Json)⟩:Json) (z9.drop 1) OY)else (k0 (⟨5,⟨0,0⟩,(x2.getD 0 (Ty.cg .token)).text,([]:List ak),([]:List Json)⟩:Json) (z9.drop 1) OY); let j17:=fun (vn:Bool)=>bif vn then (bif ((x2.getD 0 (Ty.cg .token)).kind==1)then (dm ((x2.getD 0 (Ty.cg .token)).text==([123]:ak)) x1 (z9.drop 1) OY (fun HM Il GK=>k0 (⟨HM.kind,⟨HM.num.aw,HM.num.exp⟩,HM.text,HM.names,HM.items⟩:Json) Il GK))else (j18))else (let j16:=fun (Zu:Bool)=>bif Zu then (bif ((x2.getD 0 (Ty.cg .token)).kind==4)then (k0 (⟨((nF .str (.int .i64) ((x2.getD 0 (Ty.cg .token)).text) ([(([110,117,108,108]:ak),1),(([102,97,108,115,101]:ak),2),(([116,114,117,101]:ak),3)]:List (ak × Int))):Int),⟨0,0⟩,([]:ak),([]:List ak),([]:List Json)⟩:Json) (z9.drop 1) OY)else (j18))else (j18); bif ((x2.getD 0 (Ty.cg .token)).text==([110,117,108,108]:ak))then (j16 ((x2.getD 0 (Ty.cg .token)).text==([110,117,108,108]:ak)))else (bif ((x2.getD 0 (Ty.cg .token)).text==([102,97,108,115,101]:ak))then (j16 ((x2.getD 0 (Ty.cg .token)).text==([102,97,108,115,101]:ak)))else (j16 ((x2.getD 0 (Ty.cg .token)).text==([116,114,117,101]:ak))))); bif ((x2.getD 0 (Ty.cg .token)).text==([91]:ak))then (j17 ((x2.getD 0 (Ty.cg .token)).text==([91]:ak)))else (j17 ((x2.getD 0 (Ty.cg .token)).text==([123]:ak))))); bif (!z4)then (ao 40 x2 x3 (fun y5 y6=>j19 y5 y6))else (bif (decide (x1>(16:Int)))then (ao 41 x2 x3 (fun y7 y8=>j19 y7 y8))else (j19 x2 x3)); bif ((x2.getD 0 (Ty.cg .token)).kind==2)then (j20 true)else (bif ((x2.getD 0 (Ty.cg .token)).kind==3)then (j20 true)else (bif ((x2.getD 0 (Ty.cg .token)).kind==4)then (j20 true)else (bif ((x2.getD 0 (Ty.cg .token)).kind==1)then (bif ((x2.getD 0 (Ty.cg .token)).text==([91]:ak))then (j20 true)else (j20 ((x2.getD 0 (Ty.cg .token)).text==([123]:ak))))else (j20 false)))))
noncomputable def o0 {R:Type} (ae:aH R):aH R:=fun x1 x2 x3 k0=>uI ao (dm ae) x1 x2 x3 k0
theorem BR {R:Type} (ao:bQ R) (dm:jg R) (x1:Int) (x2:List Token) (x3:Int) (k:V→ay→Option R):iq (tt.mode [.json]) (mh R ao dm) (uH R) false Tryz.f42 (aI Tryz.f42) [.ptr 0 0, .int .i64 x1] [.cells [.sl .token x2 .no, .int .i64 x3]] k =
    uI ao dm x1 x2 x3 (fun q0 q1 q2=>k (.agg [.int .i64 q0.kind, .int .i64 q0.num.aw, .int .i64 q0.num.exp, .str q0.text, .sl .str q0.names .no, .sl .json q0.items .no]) [.cells [.sl .token q1 .no, .int .i64 q2]]):=by kernel_rfl
theorem zJ (R:Type) (ae:aH R):∀a∈aO (aI Tryz.f42),cG (tt.mode [.json]) (mh R ao (dm ae)) (uH R) 1 a:=by
  refine bB 0 (by kernel_rfl) fun i hi => ?_
  omega
theorem zK (R:Type) (ae:aH R) (bL:ax.Spec.Ok Tryz.prog 42 (az ca cb (bE ae) aZ)) (other:ax.Spec R) (ho:ax.Spec.Ok Tryz.prog 42 other):ax.Spec.Ok Tryz.prog 42 (az ca cb (bE (o0 ae)) other) :=
  bm ho (bc (TT.mode [.json]) mixed (Bt R ae bL) (keep:=false) rfl rfl rfl rfl 1 (zJ R ae)) fun (x:bJ.au ca) (y:aF.au cb) k=>BR ao (dm ae) x.2.1 y.1.1 y.1.2.1 k
noncomputable def dW {R:Type}:Nat→aH R
  | 0,_,_,_,_=>none
  | n+1,mQ,mR,nI,Zo=>o0 (dW n) mQ mR nI Zo
theorem JK {R:Type} (n:Nat):dW (R:=R) (n+1)=o0 (dW n):=by kernel_rfl
theorem AU (R:Type):∀n,ax.Spec.Ok Tryz.prog 42 (az ca cb (bE (dW (R:=R) n)) aZ) :=
  vF (run:=fun n=>bE (dW (R:=R) n)) (fun x y k=>by kernel_rfl) fun n hyp=>zK R (dW n) hyp aZ (aM _)
noncomputable def cU {R:Type}:aH R:=fun x1 x2 x3 k0=>dW 40 x1 x2 x3 k0
theorem AV (R:Type):bE (R:=R) cU=fun x y k=>bE (dW 40) x y k:=by kernel_rfl
theorem AW (R:Type) (other:ax.Spec R) (ho:ax.Spec.Ok Tryz.prog 42 other):ax.Spec.Ok Tryz.prog 42 (az ca cb (bE cU) other) :=
  Bd (CI (run:=fun n=>bE (dW (R:=R) n)) (fun x y=>40) ho (AU R)) (AV R)

end Go.Proofs.YtmlkkgfenfdndaaGreatDoor

/-
  Functions of the program as pure Lean functions, and the ties; printed by wip/tools/emit.py.
-/
set_option maxRecDepth 100000
namespace Go.Proofs.YtmlkkgfenfdndaaGreatDoor
open Go Go.ax

/-! ### humpyard/json.Parse -/
abbrev uJ (R:Type):Type:=ak→(Json→Int→Int→Option R)→Option R
abbrev AX:List bJ := [.leaf (.str)]
abbrev AY:List aF := []
noncomputable def Gg {R:Type} (fn:uJ R):bJ.au AX→aF.au AY→(V→ay→Option R)→Option R:=fun x y k=>fn x.1 (fun q0 q1 q2=>k (.tuple [.agg [.int .i64 q0.kind, .int .i64 q0.num.aw, .int .i64 q0.num.exp, .str q0.text, .sl .str q0.names .no, .sl .json q0.items .no], .int .i64 q1, .int .i64 q2]) [])
noncomputable def AZ (R:Type) (ao:bQ R) (cU:aH R) (mT:uA R):Env R:=fun i=>match i with
  | 43=>some (false,(az fY fZ (jL ao) aZ))
  | 42=>some (false,(az ca cb (bE cU) aZ))
  | 25=>some (true,(az AG AH (Gd mT) aZ))
  | _=>none
theorem L5 (R:Type):po Tryz.prog (AZ R ao cU mT):=by
  intro i b sp h
  unfold AZ at h
  split at h
  · cases h; exact ⟨(kV R _ (aM _)),fun _ h=>nomatch h⟩
  · cases h; exact ⟨(AW R _ (aM _)),fun _ h=>nomatch h⟩
  · cases h; exact ⟨(J9 R _ (aM _)),fun h=>nomatch h⟩
  · cases h

noncomputable def Ic (R:Type):Nat→Option (Hint × cd R):=fun i=>match i with
  | _=>none

noncomputable def Ie {R:Type} (ao:bQ R) (cU:aH R) (mT:uA R) (x1:ak) (k0:Json→Int→Int→Option R):Option R :=
  mT x1 (fun y2 y3 y4=>bif (y3 != 0)then (k0 (⟨0,⟨0,0⟩,([]:ak),([]:List ak),([]:List Json)⟩:Json) y3 y4)else (cU 1 y2 0 (fun y5 y6 y7=>let j12:=fun (OY:List Token) (vn:Int)=>bif (vn != 0)then (cR (decide ((0:Int)<OY.length)) (k0 (⟨0,⟨0,0⟩,([]:ak),([]:List ak),([]:List Json)⟩:Json) vn ((OY.getD 0 (Ty.cg .token)).at_)))else (k0 (⟨y5.kind,⟨y5.num.aw,y5.num.exp⟩,y5.text,y5.names,y5.items⟩:Json) 0 0); cR (decide ((0:Int)<y6.length)) (bif ((y6.getD 0 (Ty.cg .token)).kind != 5)then (ao 40 y6 y7 (fun y8 y9=>j12 y8 y9))else (j12 y6 y7)))))
noncomputable def lQ {R:Type}:uJ R:=fun x1 k0=>Ie ao cU mT x1 k0
theorem M4 {R:Type} (ao:bQ R) (cU:aH R) (mT:uA R) (x1:ak) (k:V→ay→Option R):iq tt (AZ R ao cU mT) (Ic R) false Tryz.f20 (aI Tryz.f20) [.str x1] [] k =
    Ie ao cU mT x1 (fun q0 q1 q2=>k (.tuple [.agg [.int .i64 q0.kind, .int .i64 q0.num.aw, .int .i64 q0.num.exp, .str q0.text, .sl .str q0.names .no, .sl .json q0.items .no], .int .i64 q1, .int .i64 q2]) []):=by kernel_rfl
theorem Jj (R:Type):∀a∈aO (aI Tryz.f20),cG tt (AZ R ao cU mT) (Ic R) 0 a:=by
  refine bB 0 (by kernel_rfl) fun i hi => ?_
  omega
theorem Kc (R:Type) (other:ax.Spec R) (ho:ax.Spec.Ok Tryz.prog 20 other):ax.Spec.Ok Tryz.prog 20 (az AX AY (Gg lQ) other) :=
  bm ho (bc TT mixed (L5 R) (keep:=false) rfl rfl rfl rfl 0 (Jj R)) fun (x:bJ.au AX) (y:aF.au AY) k=>M4 ao cU mT x.1 k

/-! ### slices.Equal[[]string,string] -/
abbrev gG (R:Type):Type:=(List ak)→(List ak)→(Bool→Option R)→Option R
abbrev kD:List bJ := [.leaf (.sl .str), .leaf (.sl .str)]
abbrev kE:List aF := []
noncomputable def qP {R:Type} (fn:gG R):bJ.au kD→aF.au kE→(V→ay→Option R)→Option R:=fun x y k=>fn x.1 x.2.1 (fun q0=>k (.bool q0) [])
abbrev ew (R:Type):Type:=Nat→(List ak)→(List ak)→Int→Int→(Option R)→(Bool→Option R)→Option R
noncomputable def eN (R:Type):Env R:=fun i=>match i with
  | _=>none
theorem zh (R:Type):po Tryz.prog (eN R):=by
  intro i b sp h
  unfold eN at h
  split at h
  · cases h

noncomputable def ij {R:Type} (gm:(List ak)→(List ak)→Int→Int→Option R) (x3:List ak) (x4:List ak) (x5:Int) (x6:Int) (e0:Option R) (e1:Bool→Option R):Option R :=
  bif (decide (x6<x5))then (cR (decide ((0:Int)≤x6)&&decide (x6<x3.length)) (cR (decide ((0:Int)≤x6)&&decide (x6<x4.length)) (bif (!((x3.getD x6.toNat (Ty.cg .str))==(x4.getD x6.toNat (Ty.cg .str))))then (e1 false)else (gm x3 x4 x5 (IntKind.i64.wrap (x6+1))))))else (e0)
noncomputable def aQ {R:Type}:ew R
  | 0,_,_,_,_,_,_=>none
  | n+1,mQ,mR,nI,xl,e0,e1=>ij (fun mQ mR nI xl=>aQ n mQ mR nI xl e0 e1) mQ mR nI xl e0 e1
noncomputable def im:Hint := { live := [0,1,12,13],own := [],rows := [],cells := [],drop := [],out := [4] }
abbrev dh:Type:=(List ak) × (List ak) × Int × Int
noncomputable def gL:dh→St:=fun d=>⟨[.sl .str d.1 .no, .sl .str d.2.1 .no, .undef, .undef, .undef, .undef, .undef, .undef, .undef, .undef, .undef, .undef, .int .i64 d.2.2.1, .int .i64 d.2.2.2, .undef, .undef, .undef, .undef, .undef, .undef, .undef, .undef, .undef, .undef, .undef, .undef], []⟩
noncomputable def k8 {R:Type} (K:Ex→St→Option R):Option R:=K (.exit 0) ⟨[.undef, .undef, .undef, .undef, .undef, .undef, .undef, .undef, .undef, .undef, .undef, .undef, .undef, .undef, .undef, .undef, .undef, .undef, .undef, .undef, .undef, .undef, .undef, .undef, .undef, .undef], []⟩
noncomputable def k9 {R:Type} (K:Ex→St→Option R) (q0:Bool):Option R:=K (.ret) ⟨[.undef, .undef, .undef, .undef, .bool q0, .undef, .undef, .undef, .undef, .undef, .undef, .undef, .undef, .undef, .undef, .undef, .undef, .undef, .undef, .undef, .undef, .undef, .undef, .undef, .undef, .undef], []⟩
noncomputable def lF {R:Type} (K:Ex→St→Option R) (rc:dh→Option R) (d:dh):Option R:=ij (fun z0 z1 z2 z3=>rc (z0,z1,z2,z3)) d.1 d.2.1 d.2.2.1 d.2.2.2 (k8 K) (k9 K)
noncomputable def eG {R:Type} (K:Ex→St→Option R) (n:Nat) (d:dh):Option R:=aQ n d.1 d.2.1 d.2.2.1 d.2.2.2 (k8 K) (k9 K)
abbrev di:List bJ := [.leaf (.sl .str), .leaf (.sl .str), .leaf (.undef), .leaf (.undef), .leaf (.undef), .leaf (.undef), .leaf (.undef), .leaf (.undef), .leaf (.undef), .leaf (.undef), .leaf (.undef), .leaf (.undef), .leaf (.int .i64), .leaf (.int .i64), .leaf (.undef), .leaf (.undef), .leaf (.undef), .leaf (.undef), .leaf (.undef), .leaf (.undef), .leaf (.undef), .leaf (.undef), .leaf (.undef), .leaf (.undef), .leaf (.undef), .leaf (.undef)]
abbrev dj:List aF := []
noncomputable def lG (x:bJ.au di) (y:aF.au dj):Nat:=(List.length x.1+List.length x.2.1+Int.natAbs x.2.2.2.2.2.2.2.2.2.2.2.2.1+Int.natAbs x.2.2.2.2.2.2.2.2.2.2.2.2.2.1+64)
noncomputable def lH (x:bJ.au di) (y:aF.au dj):dh:=(x.1,x.2.1,x.2.2.2.2.2.2.2.2.2.2.2.2.1,x.2.2.2.2.2.2.2.2.2.2.2.2.2.1)
noncomputable def la {R:Type} (L:ew R):bJ.au di→aF.au dj→(Ex→St→Option R)→Option R:=fun x y K=>L (lG x y) x.1 x.2.1 x.2.2.2.2.2.2.2.2.2.2.2.2.1 x.2.2.2.2.2.2.2.2.2.2.2.2.2.1 (k8 K) (k9 K)
noncomputable def hY (R:Type) (aQ:ew R):Nat→Option (Hint × cd R):=fun i=>match i with
  | 4=>some (im,(gq di dj (la aQ) qg))
  | _=>none

theorem vA {R:Type} (aQ:ew R) (K:Ex→St→Option R) (rc:St→Option R) (d:dh):roundOf tt (eN R) (hY R aQ) 0 ((aO (aI Tryz.f44)).getD 0 .skip) im (gL d) rc K=lF K (fun d=>rc (gL d)) d:=by kernel_rfl
theorem tV {R:Type} (K:Ex→St→Option R) (n:Nat) (d:dh):eG K (n+1) d=lF K (eG K n) d:=by kernel_rfl
theorem tW {R:Type} (K:Ex→St→Option R) (d:dh):eG K 0 d=none:=by kernel_rfl
theorem vB (x:bJ.au di) (y:aF.au dj):(⟨bJ.cL di x,aF.cL dj y⟩:St)=gL (lH x y):=by kernel_rfl
theorem vC {R:Type} (x:bJ.au di) (y:aF.au dj) (K:Ex→St→Option R):la (aQ) x y K=eG K (lG x y) (lH x y):=by kernel_rfl
theorem xb {R:Type} (other:cd R) (ho:ph tt (eN R) (hY R aQ) 0 ((aO (aI Tryz.f44)).getD 0 .skip) im other):ph tt (eN R) (hY R aQ) 0 ((aO (aI Tryz.f44)).getD 0 .skip) im (gq di dj (la (aQ)) other) :=
  gQ (A:=eG) ho (kO gL (lF) (eG) (tW) (vA aQ) (tV)) lG lH vB (vC)

noncomputable def rS {R:Type} (aQ:ew R) (x1:List ak) (x2:List ak) (k0:Bool→Option R):Option R :=
  bif ((x1.length:Int) != (x2.length:Int))then (k0 false)else (aQ (List.length x1+List.length x2+Int.natAbs (x1.length:Int)+Int.natAbs 0+64) x1 x2 (x1.length:Int) 0 (k0 true) (fun y7=>k0 y7))
noncomputable def bS {R:Type}:gG R:=fun x1 x2 k0=>rS aQ x1 x2 k0
theorem zM {R:Type} (aQ:ew R) (x1:List ak) (x2:List ak) (k:V→ay→Option R):iq tt (eN R) (hY R aQ) false Tryz.f44 (aI Tryz.f44) [.sl .str x1 .no, .sl .str x2 .no] [] k =
    rS aQ x1 x2 (fun q0=>k (.bool q0) []):=by kernel_rfl
theorem xu (R:Type):∀a∈aO (aI Tryz.f44),cG tt (eN R) (hY R aQ) 0 a:=by
  refine bB 1 (by kernel_rfl) fun i hi => ?_
  match i,hi with
  | 0,_=>exact fT (by kernel_rfl) (xb _ jA)
  | n+1,hi=>omega
theorem yn (R:Type) (other:ax.Spec R) (ho:ax.Spec.Ok Tryz.prog 44 other):ax.Spec.Ok Tryz.prog 44 (az kD kE (qP bS) other) :=
  bm ho (bc TT mixed (zh R) (keep:=false) rfl rfl rfl rfl 0 (xu R)) fun (x:bJ.au kD) (y:aF.au kE) k=>zM aQ x.1 x.2.1 k

/-! ### humpyard/json.Same -/
abbrev cv (R:Type):Type:=Json→Json→(Bool→Option R)→Option R
abbrev ly:List bJ := [.agg [.int .i64, .int .i64, .int .i64, .str, .sl .str, .sl .json], .agg [.int .i64, .int .i64, .int .i64, .str, .sl .str, .sl .json]]
abbrev lz:List aF := []
noncomputable def hZ {R:Type} (fn:cv R):bJ.au ly→aF.au lz→(V→ay→Option R)→Option R:=fun x y k=>fn (⟨x.1.1,⟨x.1.2.1,x.1.2.2.1⟩,x.1.2.2.2.1,x.1.2.2.2.2.1,x.1.2.2.2.2.2.1⟩:Json) (⟨x.2.1.1,⟨x.2.1.2.1,x.2.1.2.2.1⟩,x.2.1.2.2.2.1,x.2.1.2.2.2.2.1,x.2.1.2.2.2.2.2.1⟩:Json) (fun q0=>k (.bool q0) [])
/-! ### slices.EqualFunc[[]humpyard/api.Json,[]humpyard/api.Json,humpyard/api.Json,humpyard/api.Json] -/
abbrev dJ (R:Type):Type:=(List Json)→(List Json)→(Bool→Option R)→Option R
abbrev eY:List bJ := [.leaf (.sl .json), .leaf (.sl .json), .leaf (.fn 21)]
abbrev eZ:List aF := []
noncomputable def lA {R:Type} (fn:dJ R):bJ.au eY→aF.au eZ→(V→ay→Option R)→Option R:=fun x y k=>fn x.1 x.2.1 (fun q0=>k (.bool q0) [])
abbrev cI (R:Type):Type:=Nat→(List Json)→(List Json)→Int→Int→(Option R)→(Bool→Option R)→Option R
noncomputable def cH (R:Type) (aD:cv R):Env R:=fun i=>match i with
  | 21=>some (true,(az ly lz (hZ aD) aZ))
  | _=>none
theorem qw (R:Type) (aD:cv R) (o3:ax.Spec.Ok Tryz.prog 21 (az ly lz (hZ aD) aZ)):po Tryz.prog (cH R aD):=by
  intro i b sp h
  unfold cH at h
  split at h
  · cases h; exact ⟨o3,fun h=>nomatch h⟩
  · cases h

noncomputable def cN {R:Type} (aD:cv R) (gm:(List Json)→(List Json)→Int→Int→Option R) (x3:List Json) (x4:List Json) (x5:Int) (x6:Int) (e0:Option R) (e1:Bool→Option R):Option R :=
  bif (decide (x6<x5))then (cR (decide ((0:Int)≤x6)&&decide (x6<x4.length)) (cR (decide ((0:Int)≤x6)&&decide (x6<x3.length)) (aD (⟨(x4.getD x6.toNat (Ty.cg .json)).kind,⟨(x4.getD x6.toNat (Ty.cg .json)).num.aw,(x4.getD x6.toNat (Ty.cg .json)).num.exp⟩,(x4.getD x6.toNat (Ty.cg .json)).text,(x4.getD x6.toNat (Ty.cg .json)).names,(x4.getD x6.toNat (Ty.cg .json)).items⟩:Json) (⟨(x3.getD x6.toNat (Ty.cg .json)).kind,⟨(x3.getD x6.toNat (Ty.cg .json)).num.aw,(x3.getD x6.toNat (Ty.cg .json)).num.exp⟩,(x3.getD x6.toNat (Ty.cg .json)).text,(x3.getD x6.toNat (Ty.cg .json)).names,(x3.getD x6.toNat (Ty.cg .json)).items⟩:Json) (fun y7=>bif (!y7)then (e1 false)else (gm x3 x4 x5 (IntKind.i64.wrap (x6+1)))))))else (e0)
noncomputable def av {R:Type} (aD:cv R):cI R
  | 0,_,_,_,_,_,_=>none
  | n+1,mQ,mR,nI,xl,e0,e1=>cN aD (fun mQ mR nI xl=>av aD n mQ mR nI xl e0 e1) mQ mR nI xl e0 e1
noncomputable def ez:Hint := { live := [1,2,15,16,17],own := [],rows := [],cells := [],drop := [],out := [6] }
abbrev bN:Type:=(List Json) × (List Json) × Int × Int
noncomputable def dX:bN→St:=fun d=>⟨[.undef, .sl .json d.1 .no, .func 21 [] [], .undef, .undef, .undef, .undef, .undef, .undef, .undef, .undef, .undef, .undef, .undef, .undef, .sl .json d.2.1 .no, .int .i64 d.2.2.1, .int .i64 d.2.2.2, .undef, .undef, .undef, .undef, .undef, .undef, .undef, .undef, .undef, .undef, .undef, .undef, .undef, .undef], []⟩
noncomputable def fQ {R:Type} (K:Ex→St→Option R):Option R:=K (.exit 0) ⟨[.undef, .undef, .undef, .undef, .undef, .undef, .undef, .undef, .undef, .undef, .undef, .undef, .undef, .undef, .undef, .undef, .undef, .undef, .undef, .undef, .undef, .undef, .undef, .undef, .undef, .undef, .undef, .undef, .undef, .undef, .undef, .undef], []⟩
noncomputable def fR {R:Type} (K:Ex→St→Option R) (q0:Bool):Option R:=K (.ret) ⟨[.undef, .undef, .undef, .undef, .undef, .undef, .bool q0, .undef, .undef, .undef, .undef, .undef, .undef, .undef, .undef, .undef, .undef, .undef, .undef, .undef, .undef, .undef, .undef, .undef, .undef, .undef, .undef, .undef, .undef, .undef, .undef, .undef], []⟩
noncomputable def gb {R:Type} (aD:cv R) (K:Ex→St→Option R) (rc:bN→Option R) (d:bN):Option R:=cN aD (fun z0 z1 z2 z3=>rc (z0,z1,z2,z3)) d.1 d.2.1 d.2.2.1 d.2.2.2 (fQ K) (fR K)
noncomputable def cO {R:Type} (aD:cv R) (K:Ex→St→Option R) (n:Nat) (d:bN):Option R:=av aD n d.1 d.2.1 d.2.2.1 d.2.2.2 (fQ K) (fR K)
abbrev bO:List bJ := [.leaf (.undef), .leaf (.sl .json), .leaf (.fn 21), .leaf (.undef), .leaf (.undef), .leaf (.undef), .leaf (.undef), .leaf (.undef), .leaf (.undef), .leaf (.undef), .leaf (.undef), .leaf (.undef), .leaf (.undef), .leaf (.undef), .leaf (.undef), .leaf (.sl .json), .leaf (.int .i64), .leaf (.int .i64), .leaf (.undef), .leaf (.undef), .leaf (.undef), .leaf (.undef), .leaf (.undef), .leaf (.undef), .leaf (.undef), .leaf (.undef), .leaf (.undef), .leaf (.undef), .leaf (.undef), .leaf (.undef), .leaf (.undef), .leaf (.undef)]
abbrev bP:List aF := []
noncomputable def gd (x:bJ.au bO) (y:aF.au bP):Nat:=(List.length x.2.1+List.length x.2.2.2.2.2.2.2.2.2.2.2.2.2.2.2.1+Int.natAbs x.2.2.2.2.2.2.2.2.2.2.2.2.2.2.2.2.1+Int.natAbs x.2.2.2.2.2.2.2.2.2.2.2.2.2.2.2.2.2.1+64)
noncomputable def gf (x:bJ.au bO) (y:aF.au bP):bN:=(x.2.1,x.2.2.2.2.2.2.2.2.2.2.2.2.2.2.2.1,x.2.2.2.2.2.2.2.2.2.2.2.2.2.2.2.2.1,x.2.2.2.2.2.2.2.2.2.2.2.2.2.2.2.2.2.1)
noncomputable def fS {R:Type} (L:cI R):bJ.au bO→aF.au bP→(Ex→St→Option R)→Option R:=fun x y K=>L (gd x y) x.2.1 x.2.2.2.2.2.2.2.2.2.2.2.2.2.2.2.1 x.2.2.2.2.2.2.2.2.2.2.2.2.2.2.2.2.1 x.2.2.2.2.2.2.2.2.2.2.2.2.2.2.2.2.2.1 (fQ K) (fR K)
noncomputable def dM (R:Type) (av:cI R):Nat→Option (Hint × cd R):=fun i=>match i with
  | 4=>some (ez,(gq bO bP (fS av) qg))
  | _=>none

theorem oK {R:Type} (aD:cv R) (av:cI R) (K:Ex→St→Option R) (rc:St→Option R) (d:bN):roundOf tt (cH R aD) (dM R av) 0 ((aO (aI Tryz.f45)).getD 0 .skip) ez (dX d) rc K=gb aD K (fun d=>rc (dX d)) d:=by kernel_rfl
theorem nW {R:Type} (aD:cv R) (K:Ex→St→Option R) (n:Nat) (d:bN):cO aD K (n+1) d=gb aD K (cO aD K n) d:=by kernel_rfl
theorem nX {R:Type} (aD:cv R) (K:Ex→St→Option R) (d:bN):cO aD K 0 d=none:=by kernel_rfl
theorem oL (x:bJ.au bO) (y:aF.au bP):(⟨bJ.cL bO x,aF.cL bP y⟩:St)=dX (gf x y):=by kernel_rfl
theorem oM {R:Type} (aD:cv R) (x:bJ.au bO) (y:aF.au bP) (K:Ex→St→Option R):fS (av aD) x y K=cO aD K (gd x y) (gf x y):=by kernel_rfl
theorem pk {R:Type} (aD:cv R) (other:cd R) (ho:ph tt (cH R aD) (dM R (av aD)) 0 ((aO (aI Tryz.f45)).getD 0 .skip) ez other):ph tt (cH R aD) (dM R (av aD)) 0 ((aO (aI Tryz.f45)).getD 0 .skip) ez (gq bO bP (fS (av aD)) other) :=
  gQ (A:=cO aD) ho (kO dX (gb aD) (cO aD) (nX aD) (oK aD (av aD)) (nW aD)) gd gf oL (oM aD)

noncomputable def lL {R:Type} (av:cI R) (x1:List Json) (x2:List Json) (k0:Bool→Option R):Option R :=
  bif ((x1.length:Int) != (x2.length:Int))then (k0 false)else (av (List.length x2+List.length x1+Int.natAbs (x1.length:Int)+Int.natAbs 0+64) x2 x1 (x1.length:Int) 0 (k0 true) (fun y8=>k0 y8))
noncomputable def bb {R:Type} (aD:cv R):dJ R:=fun x1 x2 k0=>lL (av aD) x1 x2 k0
theorem qQ {R:Type} (aD:cv R) (av:cI R) (x1:List Json) (x2:List Json) (k:V→ay→Option R):iq tt (cH R aD) (dM R av) false Tryz.f45 (aI Tryz.f45) [.sl .json x1 .no, .sl .json x2 .no, .func 21 [] []] [] k =
    lL av x1 x2 (fun q0=>k (.bool q0) []):=by kernel_rfl
theorem pY (R:Type) (aD:cv R):∀a∈aO (aI Tryz.f45),cG tt (cH R aD) (dM R (av aD)) 0 a:=by
  refine bB 1 (by kernel_rfl) fun i hi => ?_
  match i,hi with
  | 0,_=>exact fT (by kernel_rfl) (pk aD _ jA)
  | n+1,hi=>omega
theorem p7 (R:Type) (aD:cv R) (o3:ax.Spec.Ok Tryz.prog 21 (az ly lz (hZ aD) aZ)) (other:ax.Spec R) (ho:ax.Spec.Ok Tryz.prog 45 other):ax.Spec.Ok Tryz.prog 45 (az eY eZ (lA (bb aD)) other) :=
  bm ho (bc TT mixed (qw R aD o3) (keep:=false) rfl rfl rfl rfl 0 (pY R aD)) fun (x:bJ.au eY) (y:aF.au eZ) k=>qQ aD (av aD) x.1 x.2.1 k

noncomputable def Cc (R:Type) (bb:dJ R) (bS:gG R):Env R:=fun i=>match i with
  | 45=>some (true,(az eY eZ (lA bb) aZ))
  | 44=>some (true,(az kD kE (qP bS) aZ))
  | _=>none
theorem M5 (R:Type) (aD:cv R) (o3:ax.Spec.Ok Tryz.prog 21 (az ly lz (hZ aD) aZ)):po Tryz.prog (Cc R (bb aD) bS):=by
  intro i b sp h
  unfold Cc at h
  split at h
  · cases h; exact ⟨(p7 R aD o3 _ (aM _)),fun h=>nomatch h⟩
  · cases h; exact ⟨(yn R _ (aM _)),fun h=>nomatch h⟩
  · cases h

noncomputable def JL (R:Type):Nat→Option (Hint × cd R):=fun i=>match i with
  | _=>none

noncomputable def Cd {R:Type} (bb:dJ R) (bS:gG R) (x1:Json) (x2:Json) (k0:Bool→Option R):Option R :=
  bif (x1.kind==x2.kind)then (bif (x1.num.aw==x2.num.aw&&(x1.num.exp==x2.num.exp&&true))then (bif (x1.text==x2.text)then (bS x1.names x2.names (fun y3=>bif y3 then (bb x1.items x2.items (fun y4=>k0 y4))else (k0 false)))else (k0 false))else (k0 false))else (k0 false)
noncomputable def E4 {R:Type} (aD:cv R):cv R:=fun x1 x2 k0=>Cd (bb aD) bS x1 x2 k0
theorem O8 {R:Type} (bb:dJ R) (bS:gG R) (x1:Json) (x2:Json) (k:V→ay→Option R):iq tt (Cc R bb bS) (JL R) false Tryz.f21 (aI Tryz.f21) [.agg [.int .i64 x1.kind, .int .i64 x1.num.aw, .int .i64 x1.num.exp, .str x1.text, .sl .str x1.names .no, .sl .json x1.items .no], .agg [.int .i64 x2.kind, .int .i64 x2.num.aw, .int .i64 x2.num.exp, .str x2.text, .sl .str x2.names .no, .sl .json x2.items .no]] [] k =
    Cd bb bS x1 x2 (fun q0=>k (.bool q0) []):=by kernel_rfl
theorem Kd (R:Type) (aD:cv R):∀a∈aO (aI Tryz.f21),cG tt (Cc R (bb aD) bS) (JL R) 0 a:=by
  refine bB 0 (by kernel_rfl) fun i hi => ?_
  omega
theorem Ke (R:Type) (aD:cv R) (o3:ax.Spec.Ok Tryz.prog 21 (az ly lz (hZ aD) aZ)) (other:ax.Spec R) (ho:ax.Spec.Ok Tryz.prog 21 other):ax.Spec.Ok Tryz.prog 21 (az ly lz (hZ (E4 aD)) other) :=
  bm ho (bc TT mixed (M5 R aD o3) (keep:=false) rfl rfl rfl rfl 0 (Kd R aD)) fun (x:bJ.au ly) (y:aF.au lz) k=>O8 (bb aD) bS (⟨x.1.1,⟨x.1.2.1,x.1.2.2.1⟩,x.1.2.2.2.1,x.1.2.2.2.2.1,x.1.2.2.2.2.2.1⟩:Json) (⟨x.2.1.1,⟨x.2.1.2.1,x.2.1.2.2.1⟩,x.2.1.2.2.2.1,x.2.1.2.2.2.2.1,x.2.1.2.2.2.2.2.1⟩:Json) k
noncomputable def ki {R:Type}:Nat→cv R
  | 0,_,_,_=>none
  | n+1,mQ,mR,Zo=>E4 (ki n) mQ mR Zo
theorem U9 {R:Type} (n:Nat):ki (R:=R) (n+1)=E4 (ki n):=by kernel_rfl
theorem L6 (R:Type):∀n,ax.Spec.Ok Tryz.prog 21 (az ly lz (hZ (ki (R:=R) n)) aZ) :=
  vF (run:=fun n=>hZ (ki (R:=R) n)) (fun x y k=>by kernel_rfl) fun n hyp=>Ke R (ki n) hyp aZ (aM _)
noncomputable def c8 {R:Type}:cv R:=fun x1 x2 k0=>ki (Json.depth x1+2) x1 x2 k0
theorem L7 (R:Type):hZ (R:=R) c8=fun x y k=>hZ (ki (Json.depth (⟨x.1.1,⟨x.1.2.1,x.1.2.2.1⟩,x.1.2.2.2.1,x.1.2.2.2.2.1,x.1.2.2.2.2.2.1⟩:Json)+2)) x y k:=by kernel_rfl
theorem E5 (R:Type) (other:ax.Spec R) (ho:ax.Spec.Ok Tryz.prog 21 other):ax.Spec.Ok Tryz.prog 21 (az ly lz (hZ c8) other) :=
  Bd (CI (run:=fun n=>hZ (ki (R:=R) n)) (fun x y=>(Json.depth (⟨x.1.1,⟨x.1.2.1,x.1.2.2.1⟩,x.1.2.2.2.1,x.1.2.2.2.2.1,x.1.2.2.2.2.2.1⟩:Json)+2)) ho (L6 R)) (L7 R)

/-! ### humpyard/humpyardlaw04.awake -/
abbrev sJ (R:Type):Type:=(Bool→Option R)→Option R
abbrev yJ:List bJ := []
abbrev yK:List aF := []
noncomputable def E6 {R:Type} (fn:sJ R):bJ.au yJ→aF.au yK→(V→ay→Option R)→Option R:=fun x y k=>fn (fun q0=>k (.bool q0) [])
noncomputable def yL (R:Type) (lQ:uJ R) (dt:nr R) (cp:jC R) (c8:cv R):Env R:=fun i=>match i with
  | 20=>some (true,(az AX AY (Gg lQ) aZ))
  | 17=>some (true,(az wO wP (Cl dt) aZ))
  | 32=>some (true,(az s5 s6 (yD cp) aZ))
  | 21=>some (true,(az ly lz (hZ c8) aZ))
  | _=>none
theorem Kf (R:Type):po Tryz.prog (yL R lQ dt cp c8):=by
  intro i b sp h
  unfold yL at h
  split at h
  · cases h; exact ⟨(Kc R _ (aM _)),fun h=>nomatch h⟩
  · cases h; exact ⟨(DS R _ (aM _)),fun h=>nomatch h⟩
  · cases h; exact ⟨(zx R _ (aM _)),fun h=>nomatch h⟩
  · cases h; exact ⟨(E5 R _ (aM _)),fun h=>nomatch h⟩
  · cases h

noncomputable def Gh (R:Type):Nat→Option (Hint × cd R):=fun i=>match i with
  | _=>none

noncomputable def Gi {R:Type} (lQ:uJ R) (dt:nr R) (cp:jC R) (c8:cv R) (k0:Bool→Option R):Option R :=
  lQ ([32,123,34,97,34,32,58,32,91,49,46,53,48,44,32,110,117,108,108,93,125,32]:ak) (fun y1 y2 y3=>lQ ([123,34,97,34,58,49,44,34,97,34]:ak) (fun y4 y5 y6=>bif (y2==0)then (bif (y3==0)then (dt (⟨y1.kind,⟨y1.num.aw,y1.num.exp⟩,y1.text,y1.names,y1.items⟩:Json) (fun y7=>bif (y7==([123,34,97,34,58,91,49,46,53,44,110,117,108,108,93,125]:ak))then (bif (y5==42)then (bif (y6==7)then (cp (⟨y1.kind,⟨y1.num.aw,y1.num.exp⟩,y1.text,y1.names,y1.items⟩:Json) (fun y8=>bif y8 then (c8 (⟨y1.kind,⟨y1.num.aw,y1.num.exp⟩,y1.text,y1.names,y1.items⟩:Json) (⟨y1.kind,⟨y1.num.aw,y1.num.exp⟩,y1.text,y1.names,y1.items⟩:Json) (fun y9=>bif y9 then (c8 (⟨y1.kind,⟨y1.num.aw,y1.num.exp⟩,y1.text,y1.names,y1.items⟩:Json) (⟨0,⟨0,0⟩,([]:ak),([]:List ak),([]:List Json)⟩:Json) (fun B5=>k0 (!B5)))else (k0 false)))else (k0 false)))else (k0 false))else (k0 false))else (k0 false)))else (k0 false))else (k0 false)))
noncomputable def jx {R:Type}:sJ R:=fun  k0=>Gi lQ dt cp c8  k0
theorem L8 {R:Type} (lQ:uJ R) (dt:nr R) (cp:jC R) (c8:cv R) (k:V→ay→Option R):iq tt (yL R lQ dt cp c8) (Gh R) false Tryz.f30 (aI Tryz.f30) [] [] k =
    Gi lQ dt cp c8  (fun q0=>k (.bool q0) []):=by kernel_rfl
theorem Ig (R:Type):∀a∈aO (aI Tryz.f30),cG tt (yL R lQ dt cp c8) (Gh R) 0 a:=by
  refine bB 0 (by kernel_rfl) fun i hi => ?_
  omega
theorem Jk (R:Type) (other:ax.Spec R) (ho:ax.Spec.Ok Tryz.prog 30 other):ax.Spec.Ok Tryz.prog 30 (az yJ yK (E6 jx) other) :=
  bm ho (bc TT mixed (Kf R) (keep:=false) rfl rfl rfl rfl 0 (Ig R)) fun (x:bJ.au yJ) (y:aF.au yK) k=>L8 lQ dt cp c8  k

end Go.Proofs.YtmlkkgfenfdndaaGreatDoor

set_option maxRecDepth 100000
namespace Go.Proofs.YtmlkkgfenfdndaaGreatDoor
open Go Go.ax Go.Lib

abbrev Bad:=Int × List Token
def vP (x:ak):List Token→Option (List Token)
  | t::r=>if t.kind=1∧t.text=x then some r else none
  | []=>none
def Ye (ns:List ak):List Token→Except Bad (ak × List Token)
  | t::r =>
    if t.kind≠2 then .error (40,t::r)else if ns.contains t.text then .error (42,t::r)else
      match vP [58] r with
      | some r' => .ok (t.text,r')
      | none => .error (40,r)
  | [] => .error (0, [])
def QM (f:List Token→Except Bad (Json × List Token)) (obj:Bool) (ns:List ak) (is:List Json) (ts:List Token):Except Bad ((List ak × List Json) × List Token) :=
  match obj with
  | true =>
    (match Ye ns ts with
     | .error b => .error b
     | .ok (nm,ts1)=>(match f ts1 with | .error b => .error b | .ok (v,ZH) => .ok ((ns ++ [nm],is ++ [v]),ZH)))
  | false=>(match f ts with | .error b => .error b | .ok (v,ZH) => .ok ((ns,is ++ [v]),ZH))
def NU (f:List Token→Except Bad (Json × List Token)) (cl:ak) (obj:Bool):Nat→List ak→List Json→List Token→Except Bad ((List ak × List Json) × List Token)
  | 0,_,_,ts => .error (0,ts)
  | m+1,ns,is,ts =>
    match QM f obj ns is ts with
    | .error b => .error b
    | .ok (p,ZH) =>
      match vP cl ZH with
      | some r => .ok (p,r)
      | none =>
        match vP [44] ZH with
        | some r=>NU f cl obj m p.1 p.2 r
        | none => .error (40,ZH)
def Yf (t:ak):Bool:=t==xC||(t==rq||t==xB)
def Sv:List (ak × Int) := [(xC,1),(rq,2),(xB,3)]
def QN (t:ak):Bool:=t == [91]||t == [123]
def yo (t:Token):Bool:=t.kind==2||(t.kind==3||(t.kind==4||(t.kind==1&&QN t.text)))
def C1:Nat→Int→List Token→Except Bad (Json × List Token)
  | 0,_,ts => .error (0,ts)
  | _+1,_, [] => .error (0, [])
  | n+1,d,t::r =>
    if yo t=false then .error (40,t::r)else
    if d>16 then .error (41,t::r)else
    if t.kind=1∧QN t.text=true then
      let obj:=t.text == [123]
      let k:Int:=if obj then 7 else 6
      let cl:ak:=if obj then [125]else [93]
      match vP cl r with
      | some r' => .ok (⟨k,⟨0,0⟩, [], [], []⟩,r')
      | none =>
        match NU (C1 n (d+1)) cl obj (r.length+1) [] [] r with
        | .error b => .error b
        | .ok (p,r') => .ok (⟨k,⟨0,0⟩, [],p.1,p.2⟩,r')
    else if t.kind=4∧Yf t.text=true then .ok (⟨nF .str (.int .i64) t.text Sv,⟨0,0⟩, [], [], []⟩,r)
    else if t.kind=3 then .ok (⟨4,t.num, [], [], []⟩,r)
    else .ok (⟨5,⟨0,0⟩,t.text, [], []⟩,r)


def endT (ts:List Token):Prop:=∃e,ts.getLast? = some e∧e.kind=5
theorem endT.tail {t:Token} {r:List Token} (h:endT (t::r)) (ht:t.kind≠5):endT r:=by
  obtain ⟨e,h1,h2⟩:=h
  cases r with
  | nil =>
    simp at h1
    subst h1
    exact (ht h2).elim
  | cons u r=>exact ⟨e,by simpa [List.getLast?_cons_cons]using h1,h2⟩



section
variable {R:Type} (E7:aH R) (d:Int) (t:Token) (r:List Token) (k:Json→List Token→Int→Option R)
end



end Go.Proofs.YtmlkkgfenfdndaaGreatDoor

/-
  Functions of the program as pure Lean functions, and the ties; printed by wip/tools/emit.py.
-/
set_option maxRecDepth 100000
namespace Go.Proofs.YtmlkkgfenfdndaaGreatDoor
open Go Go.ax

end Go.Proofs.YtmlkkgfenfdndaaGreatDoor

set_option maxRecDepth 100000
namespace Go.Proofs.YtmlkkgfenfdndaaGreatDoor
open Go Go.ax Go.Lib

end Go.Proofs.YtmlkkgfenfdndaaGreatDoor

/-
  Functions of the program as pure Lean functions, and the ties; printed by wip/tools/emit.py.
-/
set_option maxRecDepth 100000
namespace Go.Proofs.YtmlkkgfenfdndaaGreatDoor
open Go Go.ax

end Go.Proofs.YtmlkkgfenfdndaaGreatDoor

set_option maxRecDepth 100000
namespace Go.Proofs.YtmlkkgfenfdndaaGreatDoor
open Go Go.ax Go.Lib

structure RawW (R:Type) (x:Fu) (p:ak × Token):Prop where
  word:Word p.1 p.2
  len:p.1.length≤182
  run:∀k:ak→Option R,LY x k=k p.1
  kind:∃q:Int,p.2.kind=1+q∧0≤q∧q<4∧∀k:Int→Option R,jY x.kind 4 k=k q
  text:p.2.kind=2→∀k:ak→Bool→Option R,bM p.2.text k=k p.1 true
  other:p.2.kind≠2→p.2.text=p.1
  num:p.2.kind=3→∀k:iH→Option R,cZ x.aw x.exp k=k p.2.num

end Go.Proofs.YtmlkkgfenfdndaaGreatDoor

/-
  Functions of the program as pure Lean functions, and the ties; printed by wip/tools/emit.py.
-/
set_option maxRecDepth 100000
namespace Go.Proofs.YtmlkkgfenfdndaaGreatDoor
open Go Go.ax

end Go.Proofs.YtmlkkgfenfdndaaGreatDoor

/-
  Functions of the program as pure Lean functions, and the ties; printed by wip/tools/emit.py.
-/
set_option maxRecDepth 100000
namespace Go.Proofs.YtmlkkgfenfdndaaGreatDoor
open Go Go.ax

end Go.Proofs.YtmlkkgfenfdndaaGreatDoor

set_option maxRecDepth 100000
namespace Go.Proofs.YtmlkkgfenfdndaaGreatDoor
open Go Go.ax Go.Lib

def Pj (t:Token):Int × ak × iH:=(t.kind,t.text,t.num)
theorem tokW_st:∀(l:List vH) (p:Nat),(tokW p l).map Pj=l.map fun x=>Pj x.2.2
  | [],_=>rfl
  | x::l,p=>by simp only[tokW,List.map_cons,tokW_st l]; rfl


end Go.Proofs.YtmlkkgfenfdndaaGreatDoor

