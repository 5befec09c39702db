/-
  JsonBack: for every input whose bulk is at most 1048576 the law returns true, and each argument reads behind the call as it read before; part 7 of 8 of the proof: an interpreter of the model's code over typed data, proved sound; the functions that the law reaches, printed as Lean functions and tied; the plain law. Own texts laid one behind the other.
-/
import Derived.Test.YtmlkkgfenfdndaaGreatDoorJsonBackB6
set_option linter.unusedSimpArgs false
set_option linter.unnecessarySimpa false
set_option linter.unusedVariables false
set_option linter.unusedSectionVars false
/-
  Functions of the program as pure Lean functions, and the ties; printed by wip/tools/emit.py.
-/
set_option maxRecDepth 100000
namespace Go.Proofs.YtmlkkgfenfdndaaGreatDoor
open Go Go.ay

/-! ### internal/strconv.underscoreOK -/
abbrev eF (R:Type):Type:=aj→(Bool→Option R)→Option R
abbrev iv:List bP := [.leaf (.str)]
abbrev iw:List aI := []
noncomputable def oY {R:Type} (fn:eF R):bP.av iv→aI.av iw→(V→az→Option R)→Option R:=fun x y k=>fn x.1 (fun q0=>k (.bool q0) [])
abbrev dG (R:Type):Type:=Nat→aj→Int→Int→Bool→(Int→Option R)→(Bool→Int→Option R)→Option R
noncomputable def dQ (R:Type) (internal_strconv_lower:cq R):Env R:=fun i=>match i with
  | 176=>some (true,(aA jS jT (oA internal_strconv_lower) bg))
  | _=>none
theorem wv (R:Type):pK Tryz.prog (dQ R internal_strconv_lower):=by
  intro i b sp h
  unfold dQ at h
  split at h
  · cases h; exact ⟨(sa R _ (aO _)),fun h=>nomatch h⟩
  · cases h

noncomputable def nv {R:Type} (internal_strconv_lower:cq R) (fT:aj→Int→Int→Bool→Option R) (pH:aj) (s5:Int) (mQ:Int) (s6:Bool) (e0:Int→Option R) (e1:Bool→Int→Option R):Option R :=
  bif (decide (mQ<(pH.length:Int)))then (cX (decide ((0:Int)≤mQ)&&decide (mQ<pH.length)) (bif (decide ((48:Int)≤((pH.getD mQ.toNat 0).toNat:Int)))then (cX (decide ((0:Int)≤mQ)&&decide (mQ<pH.length)) (bif (decide (((pH.getD mQ.toNat 0).toNat:Int)≤(57:Int)))then (fT pH 48 (IntKind.i64.wrap (mQ+1)) s6)else (bif s6 then (cX (decide ((0:Int)≤mQ)&&decide (mQ<pH.length)) (internal_strconv_lower ((pH.getD mQ.toNat 0).toNat:Int) (fun PQ=>bif (decide ((97:Int)≤PQ))then (cX (decide ((0:Int)≤mQ)&&decide (mQ<pH.length)) (internal_strconv_lower ((pH.getD mQ.toNat 0).toNat:Int) (fun Nh=>bif (decide (Nh≤(102:Int)))then (fT pH 48 (IntKind.i64.wrap (mQ+1)) s6)else (cX (decide ((0:Int)≤mQ)&&decide (mQ<pH.length)) (bif (((pH.getD mQ.toNat 0).toNat:Int)==95)then (bif (s5 != 48)then (e1 false s5)else (fT pH 95 (IntKind.i64.wrap (mQ+1)) s6))else (bif (s5==95)then (e1 false s5)else (fT pH 33 (IntKind.i64.wrap (mQ+1)) s6)))))))else (cX (decide ((0:Int)≤mQ)&&decide (mQ<pH.length)) (bif (((pH.getD mQ.toNat 0).toNat:Int)==95)then (bif (s5 != 48)then (e1 false s5)else (fT pH 95 (IntKind.i64.wrap (mQ+1)) s6))else (bif (s5==95)then (e1 false s5)else (fT pH 33 (IntKind.i64.wrap (mQ+1)) s6)))))))else (cX (decide ((0:Int)≤mQ)&&decide (mQ<pH.length)) (bif (((pH.getD mQ.toNat 0).toNat:Int)==95)then (bif (s5 != 48)then (e1 false s5)else (fT pH 95 (IntKind.i64.wrap (mQ+1)) s6))else (bif (s5==95)then (e1 false s5)else (fT pH 33 (IntKind.i64.wrap (mQ+1)) s6)))))))else (bif s6 then (cX (decide ((0:Int)≤mQ)&&decide (mQ<pH.length)) (internal_strconv_lower ((pH.getD mQ.toNat 0).toNat:Int) (fun BW=>bif (decide ((97:Int)≤BW))then (cX (decide ((0:Int)≤mQ)&&decide (mQ<pH.length)) (internal_strconv_lower ((pH.getD mQ.toNat 0).toNat:Int) (fun Th=>bif (decide (Th≤(102:Int)))then (fT pH 48 (IntKind.i64.wrap (mQ+1)) s6)else (cX (decide ((0:Int)≤mQ)&&decide (mQ<pH.length)) (bif (((pH.getD mQ.toNat 0).toNat:Int)==95)then (bif (s5 != 48)then (e1 false s5)else (fT pH 95 (IntKind.i64.wrap (mQ+1)) s6))else (bif (s5==95)then (e1 false s5)else (fT pH 33 (IntKind.i64.wrap (mQ+1)) s6)))))))else (cX (decide ((0:Int)≤mQ)&&decide (mQ<pH.length)) (bif (((pH.getD mQ.toNat 0).toNat:Int)==95)then (bif (s5 != 48)then (e1 false s5)else (fT pH 95 (IntKind.i64.wrap (mQ+1)) s6))else (bif (s5==95)then (e1 false s5)else (fT pH 33 (IntKind.i64.wrap (mQ+1)) s6)))))))else (cX (decide ((0:Int)≤mQ)&&decide (mQ<pH.length)) (bif (((pH.getD mQ.toNat 0).toNat:Int)==95)then (bif (s5 != 48)then (e1 false s5)else (fT pH 95 (IntKind.i64.wrap (mQ+1)) s6))else (bif (s5==95)then (e1 false s5)else (fT pH 33 (IntKind.i64.wrap (mQ+1)) s6)))))))else (e0 s5)
noncomputable def aC {R:Type}:dG R
  | 0,_,_,_,_,_,_=>none
  | n+1,l0,l7,nj,vj,e0,e1=>nv internal_strconv_lower (fun l0 l7 nj vj=>aC n l0 l7 nj vj e0 e1) l0 l7 nj vj e0 e1
noncomputable def gg:Hint := { live := [0,3,4,5],own := [],rows := [],cells := [],drop := [],out := [2,3] }
abbrev cL:Type:=aj × Int × Int × Bool
noncomputable def fP:cL→St:=fun d=>⟨[.str d.1, .undef, .undef, .int .i32 d.2.1, .int .i64 d.2.2.1, .bool d.2.2.2, .undef, .undef, .undef, .undef, .undef, .undef, .undef, .undef, .undef, .undef, .undef, .undef, .undef, .undef, .undef, .undef, .undef, .undef, .undef, .undef, .undef, .undef, .undef, .undef, .undef, .undef, .undef, .undef, .undef, .undef, .undef, .undef, .undef, .undef, .undef, .undef, .undef, .undef, .undef, .undef, .undef, .undef, .undef, .undef, .undef, .undef, .undef, .undef, .undef, .undef, .undef, .undef, .undef, .undef, .undef, .undef, .undef, .undef, .undef, .undef, .undef, .undef, .undef, .undef, .undef, .undef, .undef, .undef, .undef, .undef, .undef, .undef, .undef, .undef, .undef, .undef, .undef, .undef, .undef, .undef, .undef, .undef, .undef, .undef, .undef, .undef, .undef, .undef], []⟩
noncomputable def jg {R:Type} (K:Ex→St→Option R) (q0:Int):Option R:=K (.exit 0) ⟨[.undef, .undef, .undef, .int .i32 q0, .undef, .undef, .undef, .undef, .undef, .undef, .undef, .undef, .undef, .undef, .undef, .undef, .undef, .undef, .undef, .undef, .undef, .undef, .undef, .undef, .undef, .undef, .undef, .undef, .undef, .undef, .undef, .undef, .undef, .undef, .undef, .undef, .undef, .undef, .undef, .undef, .undef, .undef, .undef, .undef, .undef, .undef, .undef, .undef, .undef, .undef, .undef, .undef, .undef, .undef, .undef, .undef, .undef, .undef, .undef, .undef, .undef, .undef, .undef, .undef, .undef, .undef, .undef, .undef, .undef, .undef, .undef, .undef, .undef, .undef, .undef, .undef, .undef, .undef, .undef, .undef, .undef, .undef, .undef, .undef, .undef, .undef, .undef, .undef, .undef, .undef, .undef, .undef, .undef, .undef], []⟩
noncomputable def jh {R:Type} (K:Ex→St→Option R) (q0:Bool) (q1:Int):Option R:=K (.ret) ⟨[.undef, .undef, .bool q0, .int .i32 q1, .undef, .undef, .undef, .undef, .undef, .undef, .undef, .undef, .undef, .undef, .undef, .undef, .undef, .undef, .undef, .undef, .undef, .undef, .undef, .undef, .undef, .undef, .undef, .undef, .undef, .undef, .undef, .undef, .undef, .undef, .undef, .undef, .undef, .undef, .undef, .undef, .undef, .undef, .undef, .undef, .undef, .undef, .undef, .undef, .undef, .undef, .undef, .undef, .undef, .undef, .undef, .undef, .undef, .undef, .undef, .undef, .undef, .undef, .undef, .undef, .undef, .undef, .undef, .undef, .undef, .undef, .undef, .undef, .undef, .undef, .undef, .undef, .undef, .undef, .undef, .undef, .undef, .undef, .undef, .undef, .undef, .undef, .undef, .undef, .undef, .undef, .undef, .undef, .undef, .undef], []⟩
noncomputable def jy {R:Type} (internal_strconv_lower:cq R) (K:Ex→St→Option R) (rc:cL→Option R) (d:cL):Option R:=nv internal_strconv_lower (fun z0 z1 z2 z3=>rc (z0,z1,z2,z3)) d.1 d.2.1 d.2.2.1 d.2.2.2 (jg K) (jh K)
noncomputable def dN {R:Type} (K:Ex→St→Option R) (n:Nat) (d:cL):Option R:=aC n d.1 d.2.1 d.2.2.1 d.2.2.2 (jg K) (jh K)
abbrev cM:List bP := [.leaf (.str), .leaf (.undef), .leaf (.undef), .leaf (.int .i32), .leaf (.int .i64), .leaf (.bool), .leaf (.undef), .leaf (.undef), .leaf (.undef), .leaf (.undef), .leaf (.undef), .leaf (.undef), .leaf (.undef), .leaf (.undef), .leaf (.undef), .leaf (.undef), .leaf (.undef), .leaf (.undef), .leaf (.undef), .leaf (.undef), .leaf (.undef), .leaf (.undef), .leaf (.undef), .leaf (.undef), .leaf (.undef), .leaf (.undef), .leaf (.undef), .leaf (.undef), .leaf (.undef), .leaf (.undef), .leaf (.undef), .leaf (.undef), .leaf (.undef), .leaf (.undef), .leaf (.undef), .leaf (.undef), .leaf (.undef), .leaf (.undef), .leaf (.undef), .leaf (.undef), .leaf (.undef), .leaf (.undef), .leaf (.undef), .leaf (.undef), .leaf (.undef), .leaf (.undef), .leaf (.undef), .leaf (.undef), .leaf (.undef), .leaf (.undef), .leaf (.undef), .leaf (.undef), .leaf (.undef), .leaf (.undef), .leaf (.undef), .leaf (.undef), .leaf (.undef), .leaf (.undef), .leaf (.undef), .leaf (.undef), .leaf (.undef), .leaf (.undef), .leaf (.undef), .leaf (.undef), .leaf (.undef), .leaf (.undef), .leaf (.undef), .leaf (.undef), .leaf (.undef), .leaf (.undef), .leaf (.undef), .leaf (.undef), .leaf (.undef), .leaf (.undef), .leaf (.undef), .leaf (.undef), .leaf (.undef), .leaf (.undef), .leaf (.undef), .leaf (.undef), .leaf (.undef), .leaf (.undef), .leaf (.undef), .leaf (.undef), .leaf (.undef), .leaf (.undef), .leaf (.undef), .leaf (.undef), .leaf (.undef), .leaf (.undef), .leaf (.undef), .leaf (.undef), .leaf (.undef), .leaf (.undef)]
abbrev cN:List aI := []
noncomputable def jz (x:bP.av cM) (y:aI.av cN):Nat:=(List.length x.1+Int.natAbs x.2.2.2.1+Int.natAbs x.2.2.2.2.1+64)
noncomputable def jA (x:bP.av cM) (y:aI.av cN):cL:=(x.1,x.2.2.2.1,x.2.2.2.2.1,x.2.2.2.2.2.1)
noncomputable def ji {R:Type} (L:dG R):bP.av cM→aI.av cN→(Ex→St→Option R)→Option R:=fun x y K=>L (jz x y) x.1 x.2.2.2.1 x.2.2.2.2.1 x.2.2.2.2.2.1 (jg K) (jh K)
noncomputable def fW (R:Type) (aC:dG R):Nat→Option (Hint × cp R):=fun i=>match i with
  | 10=>some (gg,(gE cM cN (ji aC) qB))
  | _=>none

theorem sq {R:Type} (internal_strconv_lower:cq R) (aC:dG R) (K:Ex→St→Option R) (rc:St→Option R) (d:cL):roundOf tt (dQ R internal_strconv_lower) (fW R aC) 0 ((aQ (aL Tryz.f177)).getD 0 .skip) gg (fP d) rc K=jy internal_strconv_lower K (fun d=>rc (fP d)) d:=by kernel_rfl
theorem rA {R:Type} (K:Ex→St→Option R) (n:Nat) (d:cL):dN K (n+1) d=jy internal_strconv_lower K (dN K n) d:=by kernel_rfl
theorem rB {R:Type} (K:Ex→St→Option R) (d:cL):dN K 0 d=none:=by kernel_rfl
theorem sr (x:bP.av cM) (y:aI.av cN):(⟨bP.cT cM x,aI.cT cN y⟩:St)=fP (jA x y):=by kernel_rfl
theorem ss {R:Type} (x:bP.av cM) (y:aI.av cN) (K:Ex→St→Option R):ji (aC) x y K=dN K (jz x y) (jA x y):=by kernel_rfl
theorem tw {R:Type} (other:cp R) (ho:pG tt (dQ R internal_strconv_lower) (fW R aC) 0 ((aQ (aL Tryz.f177)).getD 0 .skip) gg other):pG tt (dQ R internal_strconv_lower) (fW R aC) 0 ((aQ (aL Tryz.f177)).getD 0 .skip) gg (gE cM cN (ji (aC)) other) :=
  gW (A:=dN) ho (k9 fP (jy internal_strconv_lower) (dN) (rB) (sq internal_strconv_lower aC) (rA)) jz jA sr (ss)

noncomputable def pE {R:Type} (internal_strconv_lower:cq R) (aC:dG R) (x1:aj) (k0:Bool→Option R):Option R :=
  let j46:=fun (z3:aj)=>bif (decide ((z3.length:Int)≥(2:Int)))then (cX (decide ((0:Int)<z3.length)) (bif (((z3.getD 0 0).toNat:Int)==48)then (cX (decide ((1:Int)<z3.length)) (internal_strconv_lower ((z3.getD 1 0).toNat:Int) (fun y4=>bif (y4==98)then (cX (decide ((1:Int)<z3.length)) (internal_strconv_lower ((z3.getD 1 0).toNat:Int) (fun y9=>aC (List.length z3+Int.natAbs 48+Int.natAbs 2+64) z3 48 2 (y9==120) (fun IZ=>k0 (IZ != 95)) (fun NJ Nf=>k0 NJ))))else (cX (decide ((1:Int)<z3.length)) (internal_strconv_lower ((z3.getD 1 0).toNat:Int) (fun y5=>bif (y5==111)then (cX (decide ((1:Int)<z3.length)) (internal_strconv_lower ((z3.getD 1 0).toNat:Int) (fun yf=>aC (List.length z3+Int.natAbs 48+Int.natAbs 2+64) z3 48 2 (yf==120) (fun PN=>k0 (PN != 95)) (fun Ng y33=>k0 Ng))))else (cX (decide ((1:Int)<z3.length)) (internal_strconv_lower ((z3.getD 1 0).toNat:Int) (fun y6=>bif (y6==120)then (cX (decide ((1:Int)<z3.length)) (internal_strconv_lower ((z3.getD 1 0).toNat:Int) (fun wc=>aC (List.length z3+Int.natAbs 48+Int.natAbs 2+64) z3 48 2 (wc==120) (fun y34=>k0 (y34 != 95)) (fun y35 WR=>k0 y35))))else (aC (List.length z3+Int.natAbs 94+Int.natAbs 0+64) z3 94 0 false (fun Tl=>k0 (Tl != 95)) (fun V5 WS=>k0 V5)))))))))))else (aC (List.length z3+Int.natAbs 94+Int.natAbs 0+64) z3 94 0 false (fun WT=>k0 (WT != 95)) (fun WU Oz=>k0 WU))))else (aC (List.length z3+Int.natAbs 94+Int.natAbs 0+64) z3 94 0 false (fun Ro=>k0 (Ro != 95)) (fun Rp WV=>k0 Rp)); bif (decide ((x1.length:Int)≥(1:Int)))then (cX (decide ((0:Int)<x1.length)) (bif (((x1.getD 0 0).toNat:Int)==45)then (cX (decide ((0:Int)≤(x1.length:Int))&&decide ((x1.length:Int)≤x1.length)) (cX (decide ((1:Int)≤(x1.length:Int))) (j46 ((x1.drop 1).take ((x1.length:Int).toNat - 1)))))else (cX (decide ((0:Int)<x1.length)) (bif (((x1.getD 0 0).toNat:Int)==43)then (cX (decide ((0:Int)≤(x1.length:Int))&&decide ((x1.length:Int)≤x1.length)) (cX (decide ((1:Int)≤(x1.length:Int))) (j46 ((x1.drop 1).take ((x1.length:Int).toNat - 1)))))else (j46 x1)))))else (j46 x1)
noncomputable def bp {R:Type}:eF R:=fun x1 k0=>pE internal_strconv_lower aC x1 k0
theorem xc {R:Type} (internal_strconv_lower:cq R) (aC:dG R) (x1:aj) (k:V→az→Option R):iE tt (dQ R internal_strconv_lower) (fW R aC) false Tryz.f177 (aL Tryz.f177) [.str x1] [] k =
    pE internal_strconv_lower aC x1 (fun q0=>k (.bool q0) []):=by kernel_rfl
theorem uM (R:Type):∀a∈aQ (aL Tryz.f177),cO tt (dQ R internal_strconv_lower) (fW R aC) 0 a:=by
  refine bF 1 (by kernel_rfl) fun i hi => ?_
  match i,hi with
  | 0,_=>exact gb (by kernel_rfl) (tw _ jL)
  | n+1,hi=>omega
theorem vG (R:Type) (other:ay.Spec R) (ho:ay.Spec.Ok Tryz.prog 177 other):ay.Spec.Ok Tryz.prog 177 (aA iv iw (oY bp) other) :=
  bu ho (bj TT mixed (wv R) (keep:=false) rfl rfl rfl rfl 0 (uM R)) fun (x:bP.av iv) (y:aI.av iw) k=>xc internal_strconv_lower aC x.1 k

end Go.Proofs.YtmlkkgfenfdndaaGreatDoor

/-
  Functions of the program as pure Lean functions, and the ties; printed by wip/tools/emit.py.
-/
set_option maxRecDepth 100000
namespace Go.Proofs.YtmlkkgfenfdndaaGreatDoor
open Go Go.ay

/-! ### internal/strconv.ParseUint -/
abbrev gC (R:Type):Type:=aj→Int→Int→(Int→Option R)→(Int→Option R)→(Int→Option R)→(Int→Option R)→(Int→Option R)→Option R
abbrev j1:List bP := [.leaf (.str), .leaf (.int .i64), .leaf (.int .i64)]
abbrev j2:List aI := []
noncomputable def qx {R:Type} (fn:gC R):bP.av j1→aI.av j2→(V→az→Option R)→Option R:=fun x y k=>fn x.1 x.2.1 x.2.2.1 (fun q0=>k (.tuple [.int .u64 q0, .ET 184 .i64 2]) []) (fun q0=>k (.tuple [.int .u64 q0, .ET 184 .i64 3]) []) (fun q0=>k (.tuple [.int .u64 q0, .ET 184 .i64 4]) []) (fun q0=>k (.tuple [.int .u64 q0, .ET 184 .i64 1]) []) (fun q0=>k (.tuple [.int .u64 q0, .cR]) [])
abbrev ef (R:Type):Type:=Nat→Int→Bool→aj→Int→Int→Bool→Int→Nat→Int→Int→(List Int)→(aj→Bool→Int→Option R)→(Int→aj→Bool→Int→Option R)→(Int→aj→Bool→Int→Option R)→(Int→aj→Bool→Option R)→Option R
noncomputable def eK (R:Type) (internal_strconv_lower:cq R) (bp:eF R):Env R:=fun i=>match i with
  | 176=>some (true,(aA jS jT (oA internal_strconv_lower) bg))
  | 177=>some (true,(aA iv iw (oY bp) bg))
  | _=>none
theorem yp (R:Type):pK Tryz.prog (eK R internal_strconv_lower bp):=by
  intro i b sp h
  unfold eK at h
  split at h
  · cases h; exact ⟨(sa R _ (aO _)),fun h=>nomatch h⟩
  · cases h; exact ⟨(vG R _ (aO _)),fun h=>nomatch h⟩
  · cases h

noncomputable def dB {R:Type} (internal_strconv_lower:cq R) (fT:Int→Bool→aj→Int→Int→Bool→Int→Nat→Int→Int→(List Int)→Option R) (An:Int) (x21:Bool) (x22:aj) (x23:Int) (WW:Int) (WX:Bool) (Qb:Int) (x27:Nat) (x28:Int) (Iw:Int) (Us:List Int) (e0:aj→Bool→Int→Option R) (e1:Int→aj→Bool→Int→Option R) (e2:Int→aj→Bool→Int→Option R) (e3:Int→aj→Bool→Option R):Option R :=
  bif (decide (Iw<x28))then (cX (decide ((0:Int)≤Iw)&&decide (Iw<x27)) (cX (decide (Iw.toNat<Us.length)) (let j42:=fun (z40:Int)=>bif (decide (z40≥(IntKind.u8.wrap An)))then (e1 0 x22 WX Qb)else (bif (decide (Qb≥x23))then (e2 WW x22 WX Qb)else (bif (decide ((IntKind.u64.wrap ((IntKind.u64.wrap (Qb*(IntKind.u64.wrap An)))+(IntKind.u64.wrap z40)))<(IntKind.u64.wrap (Qb*(IntKind.u64.wrap An)))))then (e2 WW x22 WX (IntKind.u64.wrap (Qb*(IntKind.u64.wrap An))))else (bif (decide ((IntKind.u64.wrap ((IntKind.u64.wrap (Qb*(IntKind.u64.wrap An)))+(IntKind.u64.wrap z40)))>WW))then (e2 WW x22 WX (IntKind.u64.wrap (Qb*(IntKind.u64.wrap An))))else (fT An x21 x22 x23 WW WX (IntKind.u64.wrap ((IntKind.u64.wrap (Qb*(IntKind.u64.wrap An)))+(IntKind.u64.wrap z40))) x27 x28 (IntKind.i64.wrap (Iw+1)) Us)))); let j39:=fun (z31:Bool)=>bif z31 then (fT An x21 x22 x23 WW true Qb x27 x28 (IntKind.i64.wrap (Iw+1)) Us)else (let j38:=fun (z32:Bool)=>bif z32 then (j42 (IntKind.u8.wrap ((Us.getD Iw.toNat (Ty.cn (.int .u8))) - 48)))else (internal_strconv_lower (Us.getD Iw.toNat (Ty.cn (.int .u8))) (fun y33=>bif (decide ((97:Int)≤y33))then (internal_strconv_lower (Us.getD Iw.toNat (Ty.cn (.int .u8))) (fun y34=>bif (decide (y34≤(122:Int)))then (internal_strconv_lower (Us.getD Iw.toNat (Ty.cn (.int .u8))) (fun Tl=>j42 (IntKind.u8.wrap ((IntKind.u8.wrap (Tl - 97))+10))))else (e1 0 x22 WX Qb)))else (e1 0 x22 WX Qb))); bif (decide ((48:Int)≤(Us.getD Iw.toNat (Ty.cn (.int .u8)))))then (j38 (decide ((Us.getD Iw.toNat (Ty.cn (.int .u8)))≤(57:Int))))else (j38 false)); bif ((Us.getD Iw.toNat (Ty.cn (.int .u8)))==95)then (j39 x21)else (j39 false))))else (e0 x22 WX Qb)
noncomputable def aH {R:Type}:ef R
  | 0,_,_,_,_,_,_,_,_,_,_,_,_,_,_,_=>none
  | n+1,l0,l7,nj,vj,D1,D2,KA,KB,KC,KD,zT,e0,e1,e2,e3=>dB internal_strconv_lower (fun l0 l7 nj vj D1 D2 KA KB KC KD zT=>aH n l0 l7 nj vj D1 D2 KA KB KC KD zT e0 e1 e2 e3) l0 l7 nj vj D1 D2 KA KB KC KD zT e0 e1 e2 e3
noncomputable def gQ:Hint := { live := [1,8,9,10,11,12,13,99,100,101],own := [],rows := [],cells := [],drop := [],out := [6,7,9,12,13] }
abbrev db:Type:=Int × Bool × aj × Int × Int × Bool × Int × Nat × Int × Int × (List Int)
noncomputable def gA:db→St:=fun d=>⟨[.undef, .int .i64 d.1, .undef, .undef, .undef, .undef, .undef, .undef, .bool d.2.1, .str d.2.2.1, .int .u64 d.2.2.2.1, .int .u64 d.2.2.2.2.1, .bool d.2.2.2.2.2.1, .int .u64 d.2.2.2.2.2.2.1, .undef, .undef, .undef, .undef, .undef, .undef, .undef, .undef, .undef, .undef, .undef, .undef, .undef, .undef, .undef, .undef, .undef, .undef, .undef, .undef, .undef, .undef, .undef, .undef, .undef, .undef, .undef, .undef, .undef, .undef, .undef, .undef, .undef, .undef, .undef, .undef, .undef, .undef, .undef, .undef, .undef, .undef, .undef, .undef, .undef, .undef, .undef, .undef, .undef, .undef, .undef, .undef, .undef, .undef, .undef, .undef, .undef, .undef, .undef, .undef, .undef, .undef, .undef, .undef, .undef, .undef, .undef, .undef, .undef, .undef, .undef, .undef, .undef, .undef, .undef, .undef, .undef, .undef, .undef, .undef, .undef, .undef, .undef, .undef, .undef, .row 0 d.2.2.2.2.2.2.2.1, .int .i64 d.2.2.2.2.2.2.2.2.1, .int .i64 d.2.2.2.2.2.2.2.2.2.1, .undef, .undef, .undef, .undef, .undef, .undef, .undef, .undef, .undef, .undef, .undef, .undef, .undef, .undef, .undef, .undef, .undef, .undef, .undef, .undef, .undef, .undef, .undef, .undef, .undef, .undef, .undef, .undef, .undef, .undef, .undef, .undef, .undef, .undef, .undef, .undef, .undef, .undef, .undef, .undef, .undef, .undef, .undef, .undef, .undef, .undef, .undef, .undef, .undef, .undef, .undef, .undef, .undef, .undef, .undef, .undef, .undef, .undef, .undef, .undef, .undef, .undef, .undef, .undef, .undef, .undef, .undef, .undef, .undef, .undef], [.row (.int .u8) d.2.2.2.2.2.2.2.2.2.2]⟩
noncomputable def j8 {R:Type} (K:Ex→St→Option R) (q0:aj) (q1:Bool) (q2:Int):Option R:=K (.exit 3) ⟨[.undef, .undef, .undef, .undef, .undef, .undef, .undef, .undef, .undef, .str q0, .undef, .undef, .bool q1, .int .u64 q2, .undef, .undef, .undef, .undef, .undef, .undef, .undef, .undef, .undef, .undef, .undef, .undef, .undef, .undef, .undef, .undef, .undef, .undef, .undef, .undef, .undef, .undef, .undef, .undef, .undef, .undef, .undef, .undef, .undef, .undef, .undef, .undef, .undef, .undef, .undef, .undef, .undef, .undef, .undef, .undef, .undef, .undef, .undef, .undef, .undef, .undef, .undef, .undef, .undef, .undef, .undef, .undef, .undef, .undef, .undef, .undef, .undef, .undef, .undef, .undef, .undef, .undef, .undef, .undef, .undef, .undef, .undef, .undef, .undef, .undef, .undef, .undef, .undef, .undef, .undef, .undef, .undef, .undef, .undef, .undef, .undef, .undef, .undef, .undef, .undef, .undef, .undef, .undef, .undef, .undef, .undef, .undef, .undef, .undef, .undef, .undef, .undef, .undef, .undef, .undef, .undef, .undef, .undef, .undef, .undef, .undef, .undef, .undef, .undef, .undef, .undef, .undef, .undef, .undef, .undef, .undef, .undef, .undef, .undef, .undef, .undef, .undef, .undef, .undef, .undef, .undef, .undef, .undef, .undef, .undef, .undef, .undef, .undef, .undef, .undef, .undef, .undef, .undef, .undef, .undef, .undef, .undef, .undef, .undef, .undef, .undef, .undef, .undef, .undef, .undef, .undef, .undef, .undef, .undef, .undef, .undef, .undef, .undef], []⟩
noncomputable def j9 {R:Type} (K:Ex→St→Option R) (q0:Int) (q1:aj) (q2:Bool) (q3:Int):Option R:=K (.ret) ⟨[.undef, .undef, .undef, .undef, .undef, .undef, .int .u64 q0, .ET 184 .i64 2, .undef, .str q1, .undef, .undef, .bool q2, .int .u64 q3, .undef, .undef, .undef, .undef, .undef, .undef, .undef, .undef, .undef, .undef, .undef, .undef, .undef, .undef, .undef, .undef, .undef, .undef, .undef, .undef, .undef, .undef, .undef, .undef, .undef, .undef, .undef, .undef, .undef, .undef, .undef, .undef, .undef, .undef, .undef, .undef, .undef, .undef, .undef, .undef, .undef, .undef, .undef, .undef, .undef, .undef, .undef, .undef, .undef, .undef, .undef, .undef, .undef, .undef, .undef, .undef, .undef, .undef, .undef, .undef, .undef, .undef, .undef, .undef, .undef, .undef, .undef, .undef, .undef, .undef, .undef, .undef, .undef, .undef, .undef, .undef, .undef, .undef, .undef, .undef, .undef, .undef, .undef, .undef, .undef, .undef, .undef, .undef, .undef, .undef, .undef, .undef, .undef, .undef, .undef, .undef, .undef, .undef, .undef, .undef, .undef, .undef, .undef, .undef, .undef, .undef, .undef, .undef, .undef, .undef, .undef, .undef, .undef, .undef, .undef, .undef, .undef, .undef, .undef, .undef, .undef, .undef, .undef, .undef, .undef, .undef, .undef, .undef, .undef, .undef, .undef, .undef, .undef, .undef, .undef, .undef, .undef, .undef, .undef, .undef, .undef, .undef, .undef, .undef, .undef, .undef, .undef, .undef, .undef, .undef, .undef, .undef, .undef, .undef, .undef, .undef, .undef, .undef], []⟩
noncomputable def ka {R:Type} (K:Ex→St→Option R) (q0:Int) (q1:aj) (q2:Bool) (q3:Int):Option R:=K (.ret) ⟨[.undef, .undef, .undef, .undef, .undef, .undef, .int .u64 q0, .ET 184 .i64 1, .undef, .str q1, .undef, .undef, .bool q2, .int .u64 q3, .undef, .undef, .undef, .undef, .undef, .undef, .undef, .undef, .undef, .undef, .undef, .undef, .undef, .undef, .undef, .undef, .undef, .undef, .undef, .undef, .undef, .undef, .undef, .undef, .undef, .undef, .undef, .undef, .undef, .undef, .undef, .undef, .undef, .undef, .undef, .undef, .undef, .undef, .undef, .undef, .undef, .undef, .undef, .undef, .undef, .undef, .undef, .undef, .undef, .undef, .undef, .undef, .undef, .undef, .undef, .undef, .undef, .undef, .undef, .undef, .undef, .undef, .undef, .undef, .undef, .undef, .undef, .undef, .undef, .undef, .undef, .undef, .undef, .undef, .undef, .undef, .undef, .undef, .undef, .undef, .undef, .undef, .undef, .undef, .undef, .undef, .undef, .undef, .undef, .undef, .undef, .undef, .undef, .undef, .undef, .undef, .undef, .undef, .undef, .undef, .undef, .undef, .undef, .undef, .undef, .undef, .undef, .undef, .undef, .undef, .undef, .undef, .undef, .undef, .undef, .undef, .undef, .undef, .undef, .undef, .undef, .undef, .undef, .undef, .undef, .undef, .undef, .undef, .undef, .undef, .undef, .undef, .undef, .undef, .undef, .undef, .undef, .undef, .undef, .undef, .undef, .undef, .undef, .undef, .undef, .undef, .undef, .undef, .undef, .undef, .undef, .undef, .undef, .undef, .undef, .undef, .undef, .undef], []⟩
noncomputable def kb {R:Type} (K:Ex→St→Option R) (q0:Int) (q1:aj) (q2:Bool):Option R:=K (.ret) ⟨[.undef, .undef, .undef, .undef, .undef, .undef, .int .u64 q0, .ET 184 .i64 1, .undef, .str q1, .undef, .undef, .bool q2, .undef, .undef, .undef, .undef, .undef, .undef, .undef, .undef, .undef, .undef, .undef, .undef, .undef, .undef, .undef, .undef, .undef, .undef, .undef, .undef, .undef, .undef, .undef, .undef, .undef, .undef, .undef, .undef, .undef, .undef, .undef, .undef, .undef, .undef, .undef, .undef, .undef, .undef, .undef, .undef, .undef, .undef, .undef, .undef, .undef, .undef, .undef, .undef, .undef, .undef, .undef, .undef, .undef, .undef, .undef, .undef, .undef, .undef, .undef, .undef, .undef, .undef, .undef, .undef, .undef, .undef, .undef, .undef, .undef, .undef, .undef, .undef, .undef, .undef, .undef, .undef, .undef, .undef, .undef, .undef, .undef, .undef, .undef, .undef, .undef, .undef, .undef, .undef, .undef, .undef, .undef, .undef, .undef, .undef, .undef, .undef, .undef, .undef, .undef, .undef, .undef, .undef, .undef, .undef, .undef, .undef, .undef, .undef, .undef, .undef, .undef, .undef, .undef, .undef, .undef, .undef, .undef, .undef, .undef, .undef, .undef, .undef, .undef, .undef, .undef, .undef, .undef, .undef, .undef, .undef, .undef, .undef, .undef, .undef, .undef, .undef, .undef, .undef, .undef, .undef, .undef, .undef, .undef, .undef, .undef, .undef, .undef, .undef, .undef, .undef, .undef, .undef, .undef, .undef, .undef, .undef, .undef, .undef, .undef], []⟩
noncomputable def kV {R:Type} (internal_strconv_lower:cq R) (K:Ex→St→Option R) (rc:db→Option R) (d:db):Option R:=dB internal_strconv_lower (fun z0 z1 z2 z3 z4 z5 z6 z7 z8 z9 PR=>rc (z0,z1,z2,z3,z4,z5,z6,z7,z8,z9,PR)) d.1 d.2.1 d.2.2.1 d.2.2.2.1 d.2.2.2.2.1 d.2.2.2.2.2.1 d.2.2.2.2.2.2.1 d.2.2.2.2.2.2.2.1 d.2.2.2.2.2.2.2.2.1 d.2.2.2.2.2.2.2.2.2.1 d.2.2.2.2.2.2.2.2.2.2 (j8 K) (j9 K) (ka K) (kb K)
noncomputable def er {R:Type} (K:Ex→St→Option R) (n:Nat) (d:db):Option R:=aH n d.1 d.2.1 d.2.2.1 d.2.2.2.1 d.2.2.2.2.1 d.2.2.2.2.2.1 d.2.2.2.2.2.2.1 d.2.2.2.2.2.2.2.1 d.2.2.2.2.2.2.2.2.1 d.2.2.2.2.2.2.2.2.2.1 d.2.2.2.2.2.2.2.2.2.2 (j8 K) (j9 K) (ka K) (kb K)
abbrev dd:List bP := [.leaf (.undef), .leaf (.int .i64), .leaf (.undef), .leaf (.undef), .leaf (.undef), .leaf (.undef), .leaf (.undef), .leaf (.undef), .leaf (.bool), .leaf (.str), .leaf (.int .u64), .leaf (.int .u64), .leaf (.bool), .leaf (.int .u64), .leaf (.undef), .leaf (.undef), .leaf (.undef), .leaf (.undef), .leaf (.undef), .leaf (.undef), .leaf (.undef), .leaf (.undef), .leaf (.undef), .leaf (.undef), .leaf (.undef), .leaf (.undef), .leaf (.undef), .leaf (.undef), .leaf (.undef), .leaf (.undef), .leaf (.undef), .leaf (.undef), .leaf (.undef), .leaf (.undef), .leaf (.undef), .leaf (.undef), .leaf (.undef), .leaf (.undef), .leaf (.undef), .leaf (.undef), .leaf (.undef), .leaf (.undef), .leaf (.undef), .leaf (.undef), .leaf (.undef), .leaf (.undef), .leaf (.undef), .leaf (.undef), .leaf (.undef), .leaf (.undef), .leaf (.undef), .leaf (.undef), .leaf (.undef), .leaf (.undef), .leaf (.undef), .leaf (.undef), .leaf (.undef), .leaf (.undef), .leaf (.undef), .leaf (.undef), .leaf (.undef), .leaf (.undef), .leaf (.undef), .leaf (.undef), .leaf (.undef), .leaf (.undef), .leaf (.undef), .leaf (.undef), .leaf (.undef), .leaf (.undef), .leaf (.undef), .leaf (.undef), .leaf (.undef), .leaf (.undef), .leaf (.undef), .leaf (.undef), .leaf (.undef), .leaf (.undef), .leaf (.undef), .leaf (.undef), .leaf (.undef), .leaf (.undef), .leaf (.undef), .leaf (.undef), .leaf (.undef), .leaf (.undef), .leaf (.undef), .leaf (.undef), .leaf (.undef), .leaf (.undef), .leaf (.undef), .leaf (.undef), .leaf (.undef), .leaf (.undef), .leaf (.undef), .leaf (.undef), .leaf (.undef), .leaf (.undef), .leaf (.undef), .leaf (.row 0), .leaf (.int .i64), .leaf (.int .i64), .leaf (.undef), .leaf (.undef), .leaf (.undef), .leaf (.undef), .leaf (.undef), .leaf (.undef), .leaf (.undef), .leaf (.undef), .leaf (.undef), .leaf (.undef), .leaf (.undef), .leaf (.undef), .leaf (.undef), .leaf (.undef), .leaf (.undef), .leaf (.undef), .leaf (.undef), .leaf (.undef), .leaf (.undef), .leaf (.undef), .leaf (.undef), .leaf (.undef), .leaf (.undef), .leaf (.undef), .leaf (.undef), .leaf (.undef), .leaf (.undef), .leaf (.undef), .leaf (.undef), .leaf (.undef), .leaf (.undef), .leaf (.undef), .leaf (.undef), .leaf (.undef), .leaf (.undef), .leaf (.undef), .leaf (.undef), .leaf (.undef), .leaf (.undef), .leaf (.undef), .leaf (.undef), .leaf (.undef), .leaf (.undef), .leaf (.undef), .leaf (.undef), .leaf (.undef), .leaf (.undef), .leaf (.undef), .leaf (.undef), .leaf (.undef), .leaf (.undef), .leaf (.undef), .leaf (.undef), .leaf (.undef), .leaf (.undef), .leaf (.undef), .leaf (.undef), .leaf (.undef), .leaf (.undef), .leaf (.undef), .leaf (.undef), .leaf (.undef), .leaf (.undef), .leaf (.undef), .leaf (.undef), .leaf (.undef), .leaf (.undef), .leaf (.undef), .leaf (.undef), .leaf (.undef)]
abbrev de:List aI := [.row (.int .u8)]
noncomputable def kW (x:bP.av dd) (y:aI.av de):Nat:=(Int.natAbs x.2.1+List.length x.2.2.2.2.2.2.2.2.2.1+Int.natAbs x.2.2.2.2.2.2.2.2.2.2.1+Int.natAbs x.2.2.2.2.2.2.2.2.2.2.2.1+Int.natAbs x.2.2.2.2.2.2.2.2.2.2.2.2.2.1+Int.natAbs x.2.2.2.2.2.2.2.2.2.2.2.2.2.2.2.2.2.2.2.2.2.2.2.2.2.2.2.2.2.2.2.2.2.2.2.2.2.2.2.2.2.2.2.2.2.2.2.2.2.2.2.2.2.2.2.2.2.2.2.2.2.2.2.2.2.2.2.2.2.2.2.2.2.2.2.2.2.2.2.2.2.2.2.2.2.2.2.2.2.2.2.2.2.2.2.2.2.2.2.2.1+Int.natAbs x.2.2.2.2.2.2.2.2.2.2.2.2.2.2.2.2.2.2.2.2.2.2.2.2.2.2.2.2.2.2.2.2.2.2.2.2.2.2.2.2.2.2.2.2.2.2.2.2.2.2.2.2.2.2.2.2.2.2.2.2.2.2.2.2.2.2.2.2.2.2.2.2.2.2.2.2.2.2.2.2.2.2.2.2.2.2.2.2.2.2.2.2.2.2.2.2.2.2.2.2.2.1+List.length y.1+64)
noncomputable def kX (x:bP.av dd) (y:aI.av de):db:=(x.2.1,x.2.2.2.2.2.2.2.2.1,x.2.2.2.2.2.2.2.2.2.1,x.2.2.2.2.2.2.2.2.2.2.1,x.2.2.2.2.2.2.2.2.2.2.2.1,x.2.2.2.2.2.2.2.2.2.2.2.2.1,x.2.2.2.2.2.2.2.2.2.2.2.2.2.1,x.2.2.2.2.2.2.2.2.2.2.2.2.2.2.2.2.2.2.2.2.2.2.2.2.2.2.2.2.2.2.2.2.2.2.2.2.2.2.2.2.2.2.2.2.2.2.2.2.2.2.2.2.2.2.2.2.2.2.2.2.2.2.2.2.2.2.2.2.2.2.2.2.2.2.2.2.2.2.2.2.2.2.2.2.2.2.2.2.2.2.2.2.2.2.2.2.2.2.2.1,x.2.2.2.2.2.2.2.2.2.2.2.2.2.2.2.2.2.2.2.2.2.2.2.2.2.2.2.2.2.2.2.2.2.2.2.2.2.2.2.2.2.2.2.2.2.2.2.2.2.2.2.2.2.2.2.2.2.2.2.2.2.2.2.2.2.2.2.2.2.2.2.2.2.2.2.2.2.2.2.2.2.2.2.2.2.2.2.2.2.2.2.2.2.2.2.2.2.2.2.2.1,x.2.2.2.2.2.2.2.2.2.2.2.2.2.2.2.2.2.2.2.2.2.2.2.2.2.2.2.2.2.2.2.2.2.2.2.2.2.2.2.2.2.2.2.2.2.2.2.2.2.2.2.2.2.2.2.2.2.2.2.2.2.2.2.2.2.2.2.2.2.2.2.2.2.2.2.2.2.2.2.2.2.2.2.2.2.2.2.2.2.2.2.2.2.2.2.2.2.2.2.2.2.1,y.1)
noncomputable def ke {R:Type} (L:ef R):bP.av dd→aI.av de→(Ex→St→Option R)→Option R:=fun x y K=>L (kW x y) x.2.1 x.2.2.2.2.2.2.2.2.1 x.2.2.2.2.2.2.2.2.2.1 x.2.2.2.2.2.2.2.2.2.2.1 x.2.2.2.2.2.2.2.2.2.2.2.1 x.2.2.2.2.2.2.2.2.2.2.2.2.1 x.2.2.2.2.2.2.2.2.2.2.2.2.2.1 x.2.2.2.2.2.2.2.2.2.2.2.2.2.2.2.2.2.2.2.2.2.2.2.2.2.2.2.2.2.2.2.2.2.2.2.2.2.2.2.2.2.2.2.2.2.2.2.2.2.2.2.2.2.2.2.2.2.2.2.2.2.2.2.2.2.2.2.2.2.2.2.2.2.2.2.2.2.2.2.2.2.2.2.2.2.2.2.2.2.2.2.2.2.2.2.2.2.2.2.1 x.2.2.2.2.2.2.2.2.2.2.2.2.2.2.2.2.2.2.2.2.2.2.2.2.2.2.2.2.2.2.2.2.2.2.2.2.2.2.2.2.2.2.2.2.2.2.2.2.2.2.2.2.2.2.2.2.2.2.2.2.2.2.2.2.2.2.2.2.2.2.2.2.2.2.2.2.2.2.2.2.2.2.2.2.2.2.2.2.2.2.2.2.2.2.2.2.2.2.2.2.1 x.2.2.2.2.2.2.2.2.2.2.2.2.2.2.2.2.2.2.2.2.2.2.2.2.2.2.2.2.2.2.2.2.2.2.2.2.2.2.2.2.2.2.2.2.2.2.2.2.2.2.2.2.2.2.2.2.2.2.2.2.2.2.2.2.2.2.2.2.2.2.2.2.2.2.2.2.2.2.2.2.2.2.2.2.2.2.2.2.2.2.2.2.2.2.2.2.2.2.2.2.2.1 y.1 (j8 K) (j9 K) (ka K) (kb K)
noncomputable def gL (R:Type) (aH:ef R):Nat→Option (Hint × cp R):=fun i=>match i with
  | 36=>some (gQ,(gE dd de (ke aH) qB))
  | _=>none

theorem ug {R:Type} (internal_strconv_lower:cq R) (bp:eF R) (aH:ef R) (K:Ex→St→Option R) (rc:St→Option R) (d:db):roundOf tt (eK R internal_strconv_lower bp) (gL R aH) 0 ((aQ (aL Tryz.f169)).getD 0 .skip) gQ (gA d) rc K=kV internal_strconv_lower K (fun d=>rc (gA d)) d:=by kernel_rfl
theorem sN {R:Type} (K:Ex→St→Option R) (n:Nat) (d:db):er K (n+1) d=kV internal_strconv_lower K (er K n) d:=by kernel_rfl
theorem sO {R:Type} (K:Ex→St→Option R) (d:db):er K 0 d=none:=by kernel_rfl
theorem uh (x:bP.av dd) (y:aI.av de):(⟨bP.cT dd x,aI.cT de y⟩:St)=gA (kX x y):=by kernel_rfl
theorem ui {R:Type} (x:bP.av dd) (y:aI.av de) (K:Ex→St→Option R):ke (aH) x y K=er K (kW x y) (kX x y):=by kernel_rfl
theorem vH {R:Type} (other:cp R) (ho:pG tt (eK R internal_strconv_lower bp) (gL R aH) 0 ((aQ (aL Tryz.f169)).getD 0 .skip) gQ other):pG tt (eK R internal_strconv_lower bp) (gL R aH) 0 ((aQ (aL Tryz.f169)).getD 0 .skip) gQ (gE dd de (ke (aH)) other) :=
  gW (A:=er) ho (k9 gA (kV internal_strconv_lower) (er) (sO) (ug internal_strconv_lower bp aH) (sN)) kW kX uh (ui)

noncomputable def j4 {R:Type} (internal_strconv_lower:cq R) (bp:eF R) (aH:ef R) (x1:aj) (x2:Int) (x3:Int) (k0:Int→Option R) (k1:Int→Option R) (k2:Int→Option R) (k3:Int→Option R) (k4:Int→Option R):Option R :=
  bif (x1==([]:aj))then (k0 0)else (let j63:=fun (z15:aj) (z16:Int)=>let j62:=fun (z18:Int)=>let j61:=fun (Qa:Int)=>cX (decide ((0:Int)≤(IntKind.u64.wrap z18))) (aH (Int.natAbs z16+List.length x1+Int.natAbs Qa+Int.natAbs (IntKind.u64.wrap ((IntKind.u64.wrap (1*2 ^ (min ((IntKind.u64.wrap z18).toNat) IntKind.u64.bits))) - 1))+Int.natAbs 0+Int.natAbs (z15.length:Int)+Int.natAbs 0+List.length (oy z15)+64) z16 (x2==0) x1 Qa (IntKind.u64.wrap ((IntKind.u64.wrap (1*2 ^ (min ((IntKind.u64.wrap z18).toNat) IntKind.u64.bits))) - 1)) false 0 z15.length (z15.length:Int) 0 (oy z15) (fun WV V6 NM=>bif V6 then (bp WV (fun Tm=>bif (!Tm)then (k0 0)else (k4 NM)))else (k4 NM)) (fun WY YY YZ Y0=>k0 WY) (fun WZ Y1 Y2 y55=>k3 WZ) (fun V7 V8 V9=>k3 V7)); bif (z16==10)then (j61 1844674407370955162)else (bif (z16==16)then (j61 1152921504606846976)else (cX (!decide ((IntKind.u64.wrap z16)=0)) (j61 (IntKind.u64.wrap ((IntKind.u64.wrap (Int.tdiv 18446744073709551615 (IntKind.u64.wrap z16)))+1))))); bif (x3==0)then (j62 64)else (bif (decide (x3<(0:Int)))then (k2 0)else (bif (decide (x3>(64:Int)))then (k2 0)else (j62 x3))); let j14:=fun (z4:Bool)=>bif z4 then (j63 x1 x2)else (bif (x2==0)then (cX (decide ((0:Int)<x1.length)) (bif (((x1.getD 0 0).toNat:Int)==48)then (let j13:=fun (z6:Bool)=>bif z6 then (cX (decide ((0:Int)≤(x1.length:Int))&&decide ((x1.length:Int)≤x1.length)) (cX (decide ((2:Int)≤(x1.length:Int))) (j63 ((x1.drop 2).take ((x1.length:Int).toNat - 2)) 2)))else (let j12:=fun (z8:Bool)=>bif z8 then (cX (decide ((0:Int)≤(x1.length:Int))&&decide ((x1.length:Int)≤x1.length)) (cX (decide ((2:Int)≤(x1.length:Int))) (j63 ((x1.drop 2).take ((x1.length:Int).toNat - 2)) 8)))else (let j11:=fun (PR:Bool)=>bif PR then (cX (decide ((0:Int)≤(x1.length:Int))&&decide ((x1.length:Int)≤x1.length)) (cX (decide ((2:Int)≤(x1.length:Int))) (j63 ((x1.drop 2).take ((x1.length:Int).toNat - 2)) 16)))else (cX (decide ((0:Int)≤(x1.length:Int))&&decide ((x1.length:Int)≤x1.length)) (cX (decide ((1:Int)≤(x1.length:Int))) (j63 ((x1.drop 1).take ((x1.length:Int).toNat - 1)) 8))); bif (decide ((x1.length:Int)≥(3:Int)))then (cX (decide ((1:Int)<x1.length)) (internal_strconv_lower ((x1.getD 1 0).toNat:Int) (fun y9=>j11 (y9==120))))else (j11 false)); bif (decide ((x1.length:Int)≥(3:Int)))then (cX (decide ((1:Int)<x1.length)) (internal_strconv_lower ((x1.getD 1 0).toNat:Int) (fun y7=>j12 (y7==111))))else (j12 false)); bif (decide ((x1.length:Int)≥(3:Int)))then (cX (decide ((1:Int)<x1.length)) (internal_strconv_lower ((x1.getD 1 0).toNat:Int) (fun y5=>j13 (y5==98))))else (j13 false))else (j63 x1 10)))else (k1 0)); bif (decide ((2:Int)≤x2))then (j14 (decide (x2≤(36:Int))))else (j14 false))
noncomputable def cw {R:Type}:gC R:=fun x1 x2 x3 k0 k1 k2 k3 k4=>j4 internal_strconv_lower bp aH x1 x2 x3 k0 k1 k2 k3 k4
theorem zt {R:Type} (internal_strconv_lower:cq R) (bp:eF R) (aH:ef R) (x1:aj) (x2:Int) (x3:Int) (k:V→az→Option R):iE tt (eK R internal_strconv_lower bp) (gL R aH) false Tryz.f169 (aL Tryz.f169) [.str x1, .int .i64 x2, .int .i64 x3] [] k =
    j4 internal_strconv_lower bp aH x1 x2 x3 (fun q0=>k (.tuple [.int .u64 q0, .ET 184 .i64 2]) []) (fun q0=>k (.tuple [.int .u64 q0, .ET 184 .i64 3]) []) (fun q0=>k (.tuple [.int .u64 q0, .ET 184 .i64 4]) []) (fun q0=>k (.tuple [.int .u64 q0, .ET 184 .i64 1]) []) (fun q0=>k (.tuple [.int .u64 q0, .cR]) []):=by kernel_rfl
theorem xd (R:Type):∀a∈aQ (aL Tryz.f169),cO tt (eK R internal_strconv_lower bp) (gL R aH) 0 a:=by
  refine bF 1 (by kernel_rfl) fun i hi => ?_
  match i,hi with
  | 0,_=>exact gb (by kernel_rfl) (vH _ jL)
  | n+1,hi=>omega
theorem xF (R:Type) (other:ay.Spec R) (ho:ay.Spec.Ok Tryz.prog 169 other):ay.Spec.Ok Tryz.prog 169 (aA j1 j2 (qx cw) other) :=
  bu ho (bj TT mixed (yp R) (keep:=false) rfl rfl rfl rfl 0 (xd R)) fun (x:bP.av j1) (y:aI.av j2) k=>zt internal_strconv_lower bp aH x.1 x.2.1 x.2.2.1 k

end Go.Proofs.YtmlkkgfenfdndaaGreatDoor

/-
  Functions of the program as pure Lean functions, and the ties; printed by wip/tools/emit.py.
-/
set_option maxRecDepth 100000
namespace Go.Proofs.YtmlkkgfenfdndaaGreatDoor
open Go Go.ay

/-! ### strconv.ParseUint -/
abbrev mP (R:Type):Type:=aj→Int→Int→(Int→Option R)→(Int→Option R)→Option R
abbrev pY:List bP := [.leaf (.str), .leaf (.int .i64), .leaf (.int .i64)]
abbrev pZ:List aI := []
noncomputable def zu {R:Type} (fn:mP R):bP.av pY→aI.av pZ→(V→az→Option R)→Option R:=fun x y k=>fn x.1 x.2.1 x.2.2.1 (fun q0=>k (.tuple [.int .u64 q0, .iface]) []) (fun q0=>k (.tuple [.int .u64 q0, .cR]) [])
noncomputable def p6 (R:Type) (cw:gC R):Env R:=fun i=>match i with
  | 136=>some (true,(toErr_S R 184))
  | 169=>some (true,(aA j1 j2 (qx cw) bg))
  | _=>none
theorem EJ (R:Type):pK Tryz.prog (p6 R cw):=by
  intro i b sp h
  unfold p6 at h
  split at h
  · cases h; exact ⟨(toErr_ok),fun h=>nomatch h⟩
  · cases h; exact ⟨(xF R _ (aO _)),fun h=>nomatch h⟩
  · cases h

noncomputable def Aq (R:Type):Nat→Option (Hint × cp R):=fun i=>match i with
  | _=>none

noncomputable def p7 {R:Type} (cw:gC R) (x1:aj) (x2:Int) (x3:Int) (k0:Int→Option R) (k1:Int→Option R):Option R :=
  cw x1 x2 x3 (fun y4=>cX (Nat.beq 184 184&&(2==2||2==1)) (cX (decide (x1.length≤281474976710656)) (k0 y4))) (fun y5=>cX (Nat.beq 184 184&&(3==2||3==1)) (cX (decide (x1.length≤281474976710656)) (k0 y5))) (fun y6=>cX (Nat.beq 184 184&&(4==2||4==1)) (cX (decide (x1.length≤281474976710656)) (k0 y6))) (fun y7=>cX (Nat.beq 184 184&&(1==2||1==1)) (cX (decide (x1.length≤281474976710656)) (k0 y7))) (fun y8=>k1 y8)
noncomputable def dU {R:Type}:mP R:=fun x1 x2 x3 k0 k1=>p7 cw x1 x2 x3 k0 k1
theorem Fw {R:Type} (cw:gC R) (x1:aj) (x2:Int) (x3:Int) (k:V→az→Option R):iE tt (p6 R cw) (Aq R) false Tryz.f172 (aL Tryz.f172) [.str x1, .int .i64 x2, .int .i64 x3] [] k =
    p7 cw x1 x2 x3 (fun q0=>k (.tuple [.int .u64 q0, .iface]) []) (fun q0=>k (.tuple [.int .u64 q0, .cR]) []):=by kernel_rfl
theorem Dl (R:Type):∀a∈aQ (aL Tryz.f172),cO tt (p6 R cw) (Aq R) 0 a:=by
  refine bF 0 (by kernel_rfl) fun i hi => ?_
  omega
theorem D5 (R:Type) (other:ay.Spec R) (ho:ay.Spec.Ok Tryz.prog 172 other):ay.Spec.Ok Tryz.prog 172 (aA pY pZ (zu dU) other) :=
  bu ho (bj TT mixed (EJ R) (keep:=false) rfl rfl rfl rfl 0 (Dl R)) fun (x:bP.av pY) (y:aI.av pZ) k=>Fw cw x.1 x.2.1 x.2.2.1 k

/-! ### (*humpyard/quote.reader).unit -/
abbrev jq (R:Type):Type:=aj→(Int→aj→Option R)→Option R
abbrev mq:List bP := [.leaf (.ptr 0 0)]
abbrev mr:List aI := [.cells [.str]]
noncomputable def tJ {R:Type} (fn:jq R):bP.av mq→aI.av mr→(V→az→Option R)→Option R:=fun x y k=>fn y.1.1 (fun q0 q1=>k (.int .i32 q0) [.cells [.str q1]])
noncomputable def mu (R:Type) (dU:mP R):Env R:=fun i=>match i with
  | 172=>some (true,(aA pY pZ (zu dU) bg))
  | 173=>some (true,(Md R))
  | _=>none
theorem BF (R:Type):pK Tryz.prog (mu R dU):=by
  intro i b sp h
  unfold mu at h
  split at h
  · cases h; exact ⟨(D5 R _ (aO _)),fun h=>nomatch h⟩
  · cases h; exact ⟨(VZ),fun h=>nomatch h⟩
  · cases h

noncomputable def uN (R:Type):Nat→Option (Hint × cp R):=fun i=>match i with
  | _=>none

noncomputable def mv {R:Type} (dU:mP R) (x1:aj) (k0:Int→aj→Option R):Option R :=
  bif (decide ((x1.length:Int)<(4:Int)))then (k0 (-1) x1)else (cX (decide ((4:Int)≤x1.length)) (dU ((x1.drop 0).take (4 - 0)) 16 16 (fun y2=>k0 (-1) x1) (fun y3=>cX (tI ((x1.drop 0).take (4 - 0))&&tI ([43,45,95]:aj)&&decide (((x1.drop 0).take (4 - 0)).length<4294967281)&&decide (([43,45,95]:aj).length<4294967281)) (bif (Mc ((x1.drop 0).take (4 - 0)) ([43,45,95]:aj))then (k0 (-1) x1)else (cX (decide ((0:Int)≤(x1.length:Int))&&decide ((x1.length:Int)≤x1.length)) (cX (decide ((4:Int)≤(x1.length:Int))) (k0 (IntKind.i32.wrap y3) ((x1.drop 4).take ((x1.length:Int).toNat - 4)))))))))
noncomputable def cC {R:Type}:jq R:=fun x1 k0=>mv dU x1 k0
theorem B5 {R:Type} (dU:mP R) (x1:aj) (k:V→az→Option R):iE tt (mu R dU) (uN R) false Tryz.f157 (aL Tryz.f157) [.ptr 0 0] [.cells [.str x1]] k =
    mv dU x1 (fun q0 q1=>k (.int .i32 q0) [.cells [.str q1]]):=by kernel_rfl
theorem zU (R:Type):∀a∈aQ (aL Tryz.f157),cO tt (mu R dU) (uN R) 1 a:=by
  refine bF 0 (by kernel_rfl) fun i hi => ?_
  omega
theorem AU (R:Type) (other:ay.Spec R) (ho:ay.Spec.Ok Tryz.prog 157 other):ay.Spec.Ok Tryz.prog 157 (aA mq mr (tJ cC) other) :=
  bu ho (bj TT mixed (BF R) (keep:=false) rfl rfl rfl rfl 1 (zU R)) fun (x:bP.av mq) (y:aI.av mr) k=>B5 dU y.1.1 k

/-! ### (*humpyard/quote.reader).long -/
abbrev jr (R:Type):Type:=aj→(Int→aj→Option R)→Option R
abbrev mw:List bP := [.leaf (.ptr 0 0)]
abbrev my:List aI := [.cells [.str]]
noncomputable def tK {R:Type} (fn:jr R):bP.av mw→aI.av my→(V→az→Option R)→Option R:=fun x y k=>fn y.1.1 (fun q0 q1=>k (.int .i32 q0) [.cells [.str q1]])
noncomputable def mz (R:Type) (aD:dh R) (cC:jq R):Env R:=fun i=>match i with
  | 107=>some (false,(aA jQ jR (oz aD) bg))
  | 157=>some (false,(aA mq mr (tJ cC) bg))
  | _=>none
theorem BG (R:Type):pK Tryz.prog (mz R aD cC):=by
  intro i b sp h
  unfold mz at h
  split at h
  · cases h; exact ⟨(r9 R _ (aO _)),fun _ h=>nomatch h⟩
  · cases h; exact ⟨(AU R _ (aO _)),fun _ h=>nomatch h⟩
  · cases h

noncomputable def uO (R:Type):Nat→Option (Hint × cp R):=fun i=>match i with
  | _=>none

noncomputable def mA {R:Type} (aD:dh R) (cC:jq R) (x1:aj) (k0:Int→aj→Option R):Option R :=
  cC x1 (fun y2 y3=>bif (decide (y2<(55296:Int)))then (k0 y2 y3)else (bif (decide (y2≥(57344:Int)))then (k0 y2 y3)else (bif (decide (y2≥(56320:Int)))then (k0 (-1) y3)else (aD ([92,117]:aj) y3 (fun y5 y6=>bif (!y5)then (k0 (-1) y6)else (cC y6 (fun y9 yf=>bif (decide (y9<(56320:Int)))then (k0 (-1) yf)else (bif (decide (y9≥(57344:Int)))then (k0 (-1) yf)else (k0 (IntKind.i32.wrap ((IntKind.i32.wrap ((IntKind.i32.wrap (65536+(IntKind.i32.wrap ((IntKind.i32.wrap (y2 - 55296))*2 ^ (min 10 IntKind.i32.bits)))))+y9)) - 56320)) yf)))))))))
noncomputable def cr {R:Type}:jr R:=fun x1 k0=>mA aD cC x1 k0
theorem B6 {R:Type} (aD:dh R) (cC:jq R) (x1:aj) (k:V→az→Option R):iE tt (mz R aD cC) (uO R) false Tryz.f138 (aL Tryz.f138) [.ptr 0 0] [.cells [.str x1]] k =
    mA aD cC x1 (fun q0 q1=>k (.int .i32 q0) [.cells [.str q1]]):=by kernel_rfl
theorem zV (R:Type):∀a∈aQ (aL Tryz.f138),cO tt (mz R aD cC) (uO R) 1 a:=by
  refine bF 0 (by kernel_rfl) fun i hi => ?_
  omega
theorem AV (R:Type) (other:ay.Spec R) (ho:ay.Spec.Ok Tryz.prog 138 other):ay.Spec.Ok Tryz.prog 138 (aA mw my (tK cr) other) :=
  bu ho (bj TT mixed (BG R) (keep:=false) rfl rfl rfl rfl 1 (zV R)) fun (x:bP.av mw) (y:aI.av my) k=>B6 aD cC y.1.1 k

/-! ### (*humpyard/quote.reader).escaped -/
abbrev eM (R:Type):Type:=aj→(Int→aj→Option R)→Option R
abbrev kK:List bP := [.leaf (.ptr 0 0)]
abbrev kL:List aI := [.cells [.str]]
noncomputable def rC {R:Type} (fn:eM R):bP.av kK→aI.av kL→(V→az→Option R)→Option R:=fun x y k=>fn y.1.1 (fun q0 q1=>k (.int .i32 q0) [.cells [.str q1]])
noncomputable def kM (R:Type) (cr:jr R):Env R:=fun i=>match i with
  | 138=>some (false,(aA mw my (tK cr) bg))
  | _=>none
theorem zw (R:Type):pK Tryz.prog (kM R cr):=by
  intro i b sp h
  unfold kM at h
  split at h
  · cases h; exact ⟨(AV R _ (aO _)),fun _ h=>nomatch h⟩
  · cases h

noncomputable def sb (R:Type):Nat→Option (Hint × cp R):=fun i=>match i with
  | _=>none

noncomputable def kN {R:Type} (cr:jr R) (x1:aj) (k0:Int→aj→Option R):Option R :=
  bif (x1==([]:aj))then (k0 (-1) x1)else (cX (decide ((0:Int)<x1.length)) (cX (decide ((0:Int)≤(x1.length:Int))&&decide ((x1.length:Int)≤x1.length)) (cX (decide ((1:Int)≤(x1.length:Int))) (let j5:=fun (z2:Bool)=>bif z2 then (k0 (IntKind.i32.wrap ((x1.getD 0 0).toNat:Int)) ((x1.drop 1).take ((x1.length:Int).toNat - 1)))else (bif (((x1.getD 0 0).toNat:Int)==98)then (k0 8 ((x1.drop 1).take ((x1.length:Int).toNat - 1)))else (bif (((x1.getD 0 0).toNat:Int)==102)then (k0 12 ((x1.drop 1).take ((x1.length:Int).toNat - 1)))else (bif (((x1.getD 0 0).toNat:Int)==110)then (k0 10 ((x1.drop 1).take ((x1.length:Int).toNat - 1)))else (bif (((x1.getD 0 0).toNat:Int)==114)then (k0 13 ((x1.drop 1).take ((x1.length:Int).toNat - 1)))else (bif (((x1.getD 0 0).toNat:Int)==116)then (k0 9 ((x1.drop 1).take ((x1.length:Int).toNat - 1)))else (bif (((x1.getD 0 0).toNat:Int)==117)then (cr ((x1.drop 1).take ((x1.length:Int).toNat - 1)) (fun y3 y4=>k0 y3 y4))else (k0 (-1) ((x1.drop 1).take ((x1.length:Int).toNat - 1))))))))); bif (((x1.getD 0 0).toNat:Int)==34)then (j5 (((x1.getD 0 0).toNat:Int)==34))else (bif (((x1.getD 0 0).toNat:Int)==92)then (j5 (((x1.getD 0 0).toNat:Int)==92))else (j5 (((x1.getD 0 0).toNat:Int)==47)))))))
noncomputable def aZ {R:Type}:eM R:=fun x1 k0=>kN cr x1 k0
theorem zW {R:Type} (cr:jr R) (x1:aj) (k:V→az→Option R):iE tt (kM R cr) (sb R) false Tryz.f109 (aL Tryz.f109) [.ptr 0 0] [.cells [.str x1]] k =
    kN cr x1 (fun q0 q1=>k (.int .i32 q0) [.cells [.str q1]]):=by kernel_rfl
theorem xG (R:Type):∀a∈aQ (aL Tryz.f109),cO tt (kM R cr) (sb R) 1 a:=by
  refine bF 0 (by kernel_rfl) fun i hi => ?_
  omega
theorem yq (R:Type) (other:ay.Spec R) (ho:ay.Spec.Ok Tryz.prog 109 other):ay.Spec.Ok Tryz.prog 109 (aA kK kL (rC aZ) other) :=
  bu ho (bj TT mixed (zw R) (keep:=false) rfl rfl rfl rfl 1 (xG R)) fun (x:bP.av kK) (y:aI.av kL) k=>zW cr y.1.1 k

/-! ### (*humpyard/quote.reader).plain -/
abbrev fg (R:Type):Type:=aj→(Int→aj→Option R)→Option R
abbrev lV:List bP := [.leaf (.ptr 0 0)]
abbrev lW:List aI := [.cells [.str]]
noncomputable def sP {R:Type} (fn:fg R):bP.av lV→aI.av lW→(V→az→Option R)→Option R:=fun x y k=>fn y.1.1 (fun q0 q1=>k (.int .i32 q0) [.cells [.str q1]])
noncomputable def lX (R:Type):Env R:=fun i=>match i with
  | 130=>some (true,(YF R))
  | _=>none
theorem AW (R:Type):pK Tryz.prog (lX R):=by
  intro i b sp h
  unfold lX at h
  split at h
  · cases h; exact ⟨(dec_ok),fun h=>nomatch h⟩
  · cases h

noncomputable def tL (R:Type):Nat→Option (Hint × cp R):=fun i=>match i with
  | _=>none

noncomputable def lY {R:Type} (x1:aj) (k0:Int→aj→Option R):Option R :=
  let j3:=cX (decide ((0:Int)≤(x1.length:Int))&&decide ((x1.length:Int)≤x1.length)) (cX (decide ((0:Int)≤((oi x1).2:Int))&&decide (((oi x1).2:Int)≤(x1.length:Int))) (k0 ((oi x1).1:Int) ((x1.drop ((oi x1).2:Int).toNat).take ((x1.length:Int).toNat - ((oi x1).2:Int).toNat)))); bif (((oi x1).1:Int)==65533)then (bif (decide (((oi x1).2:Int)<(2:Int)))then (k0 (-1) x1)else (bif (decide (((oi x1).1:Int)<(32:Int)))then (k0 (-1) x1)else (j3)))else (bif (decide (((oi x1).1:Int)<(32:Int)))then (k0 (-1) x1)else (j3))
noncomputable def bt {R:Type}:fg R:=fun x1 k0=>lY x1 k0
theorem BH {R:Type} (x1:aj) (k:V→az→Option R):iE tt (lX R) (tL R) false Tryz.f108 (aL Tryz.f108) [.ptr 0 0] [.cells [.str x1]] k =
    lY x1 (fun q0 q1=>k (.int .i32 q0) [.cells [.str q1]]):=by kernel_rfl
theorem zx (R:Type):∀a∈aQ (aL Tryz.f108),cO tt (lX R) (tL R) 1 a:=by
  refine bF 0 (by kernel_rfl) fun i hi => ?_
  omega
theorem zX (R:Type) (other:ay.Spec R) (ho:ay.Spec.Ok Tryz.prog 108 other):ay.Spec.Ok Tryz.prog 108 (aA lV lW (sP bt) other) :=
  bu ho (bj TT mixed (AW R) (keep:=false) rfl rfl rfl rfl 1 (zx R)) fun (x:bP.av lV) (y:aI.av lW) k=>BH y.1.1 k

end Go.Proofs.YtmlkkgfenfdndaaGreatDoor

set_option maxRecDepth 100000
namespace Go.Proofs.YtmlkkgfenfdndaaGreatDoor
open Go Go.ay Go.Lib

theorem Ut {p q:Prop} [Decidable p] [Decidable q] (hp:p) (hq:q):(decide p&&decide q)=true:=by rw[bq hp,bq hq]; rfl

theorem Mz:∀(p s:aj),(s.take p.length==p)=p.isPrefixOf s
  | [],s=>by simp
  | a::p, []=>by simp
  | a::p,b::s=>by
    have:=Mz p s
    simp only[List.length_cons,List.take_succ_cons,List.isPrefixOf]
    rw[List.cons_beq_cons,this]
    congr 1
    exact Bool.beq_comm

theorem K4 {R:Type} (p s:aj) (hp:p.length≤1000) (hs:s.length≤9000000000000000000) (k:Bool→aj→Option R) :
    aD p s k=if p.isPrefixOf s then k true (s.drop p.length)else k false s:=by
  have e1:∀f:aj→Bool→Option R,dT s p f=bM s p f:=fun _=>rfl
  show dT s p (fun y3 y4=>k y4 y3)=_
  rw[e1]
  show ig bG s p (fun y3 y4=>k y4 y3)=_
  unfold ig
  have e2:∀f:Bool→Option R,bG s p f=f (p.isPrefixOf s):=by
    intro f
    show ia s p f=_
    unfold ia
    by_cases h:p.length≤s.length
    · rw[bq (show (s.length:Int)≥(p.length:Int) by omega),cond_true,aT (by rw[bq (show (0:Int)≤(p.length:Int) by omega)]; rfl),aT (bq (by omega))]
      rw[List.drop_zero,Int.toNat_natCast,Nat.sub_zero,Mz]
    · rw[cY (show ¬(s.length:Int)≥(p.length:Int) by omega),cond_false]
      congr 1
      rw[←Mz]
      symm
      rw[beq_eq_false_iff_ne]
      intro e
      have:=congrArg List.length e
      rw[List.length_take]at this
      omega
  rw[e2]
  cases hp2:p.isPrefixOf s with
  | false=>simp
  | true =>
    have hle:p.length≤s.length:=(List.IsPrefix.length_le (List.isPrefixOf_iff_prefix.1 hp2))
    rw[Bool.not_true,cond_false,aT (Ut (by omega) (by omega)),aT (Ut (by omega) (by omega))]
    simp only[Int.toNat_natCast,if_true]
    rw[List.take_of_length_le (by rw[List.length_drop]; exact Nat.le_refl _)]

theorem Tn {s:aj} (h:s ≠ []):oi s=decodeL s:=by
  unfold oi
  have:s.isEmpty=false:=by cases s with|nil=>exact (h rfl).elim|cons _ _=>rfl
  rw[this]
  rfl

def D6 (s:aj):Option (Nat × aj) :=
  if s = []then none else if (decodeL s).1=65533∧(decodeL s).2=1 then none else if (decodeL s).1<32 then none else some ((decodeL s).1,s.drop (decodeL s).2)

theorem Y3 {R:Type} (s:aj) (hs:s.length≤9000000000000000000) (k:Int→aj→Option R) :
    bt s k=match D6 s with|some (c,r)=>k (c:Int) r|none=>k (-1) s:=by
  show lY s k=_
  unfold lY
  by_cases h0:s = []
  · subst h0; rfl
  rw[Tn h0]
  have hw:=decodeL_width s
  have hle:=decodeL_le s h0
  have hj:(cX (decide ((0:Int)≤(s.length:Int))&&decide ((s.length:Int)≤s.length)) (cX (decide ((0:Int)≤((decodeL s).2:Int))&&decide (((decodeL s).2:Int)≤(s.length:Int))) (k ((decodeL s).1:Int) ((s.drop ((decodeL s).2:Int).toNat).take ((s.length:Int).toNat - ((decodeL s).2:Int).toNat)))))=k ((decodeL s).1:Int) (s.drop (decodeL s).2):=by
    rw[aT (Ut (by omega) (by omega)),aT (Ut (by omega) (by omega)),Int.toNat_natCast,Int.toNat_natCast,List.take_of_length_le (by rw[List.length_drop]; exact Nat.le_refl _)]
  simp only[hj]
  unfold D6
  rw[if_neg h0]
  by_cases h1:(decodeL s).1=65533
  · have e1:(((decodeL s).1:Int)==65533)=true:=by rw[h1]; rfl
    rw[e1,cond_true]
    by_cases h2:(decodeL s).2=1
    · rw[bq (show ((decodeL s).2:Int)<2 by omega),cond_true,if_pos ⟨h1,h2⟩]
    · rw[cY (show ¬((decodeL s).2:Int)<2 by omega),cond_false,cY (show ¬((decodeL s).1:Int)<32 by omega),cond_false,if_neg (fun h=>h2 h.2),if_neg (by omega)]
  · have e1:(((decodeL s).1:Int)==65533)=false:=by rw[beq_eq_false_iff_ne]; omega
    rw[e1,cond_false,if_neg (fun h=>h1 h.1)]
    by_cases h3:(decodeL s).1<32
    · rw[bq (show ((decodeL s).1:Int)<32 by omega),cond_true,if_pos h3]
    · rw[cY (show ¬((decodeL s).1:Int)<32 by omega),cond_false,if_neg h3]

def KE (b:UInt8):Option Nat :=
  let n:=b.toNat
  if 48≤n∧n≤57 then some (n - 48)else if 65≤n∧n≤70 then some (n - 55)else if 97≤n∧n≤102 then some (n - 87)else none
def Ix:aj→Nat→Option Nat
  | [],v=>some v
  | b::t,v=>match KE b with|some d=>Ix t (16*v+d)|none=>none

def zy (b:Int):Int:=IntKind.u8.wrap ((BitVec.ofInt IntKind.u8.bits b ||| BitVec.ofInt IntKind.u8.bits 32).toNat:Int)

def hexB (b:Nat):Bool :=
  (!(decide (48≤b)&&decide (b≤57))||decide (IntKind.u8.wrap ((b:Int) - 48)=((b - 48:Nat):Int))) &&
  (!(decide ((97:Int)≤zy b)&&decide (zy b≤122))||(!(decide (48≤b)&&decide (b≤57))&&decide (b≠95)&&decide (IntKind.u8.wrap ((IntKind.u8.wrap (zy b - 97))+10)=zy b - 87) &&
    (!decide (zy b - 87<16)||((decide (65≤b)&&decide (b≤70)&&decide (zy b - 87=((b - 55:Nat):Int)))||(decide (97≤b)&&decide (b≤102)&&decide (zy b - 87=((b - 87:Nat):Int))))) &&
    (!decide (16≤zy b - 87)||(!(decide (65≤b)&&decide (b≤70)) && !(decide (97≤b)&&decide (b≤102)))))) &&
  ((decide ((97:Int)≤zy b)&&decide (zy b≤122))||(!(decide (65≤b)&&decide (b≤70)) && !(decide (97≤b)&&decide (b≤102))))
theorem Y4:∀b:Fin 256,hexB b.val=true:=by decide +kernel
theorem Y5 (b:Nat) (hb:b<256) :
    ((48≤b∧b≤57)→IntKind.u8.wrap ((b:Int) - 48)=((b - 48:Nat):Int)) ∧
    ((97:Int)≤zy b→zy b≤122→¬(48≤b∧b≤57)∧b≠95∧IntKind.u8.wrap ((IntKind.u8.wrap (zy b - 97))+10)=zy b - 87 ∧
      (zy b - 87<16→((65≤b∧b≤70)∧zy b - 87=((b - 55:Nat):Int))∨((97≤b∧b≤102)∧zy b - 87=((b - 87:Nat):Int))) ∧
      (16≤zy b - 87→¬(65≤b∧b≤70)∧¬(97≤b∧b≤102))) ∧
    (¬((97:Int)≤zy b∧zy b≤122)→¬(65≤b∧b≤70)∧¬(97≤b∧b≤102)):=by
  have h:=Y4 ⟨b,hb⟩
  unfold hexB at h
  generalize zy (b:Int)=l at *
  simp only[Bool.and_eq_true,Bool.or_eq_true,Bool.not_eq_true',Bool.and_eq_false_iff,decide_eq_true_eq,decide_eq_false_iff_not]at h
  obtain ⟨⟨h1,h2⟩,h3⟩:=h
  refine ⟨fun q => ?_,fun q1 q2 => ?_,fun q => ?_⟩
  · rcases h1 with h1|h1
    · omega
    · exact h1
  · rcases h2 with h2|⟨⟨⟨⟨g1,g2⟩,g3⟩,g4⟩,g5⟩
    · omega
    · refine ⟨by omega,g2,g3,fun q => ?_,fun q => ?_⟩
      · rcases g4 with g4|g4
        · omega
        · rcases g4 with ⟨⟨k1,k2⟩,k3⟩|⟨⟨k1,k2⟩,k3⟩
          · exact .inl ⟨⟨k1,k2⟩,k3⟩
          · exact .inr ⟨⟨k1,k2⟩,k3⟩
      · rcases g5 with g5|⟨k1,k2⟩
        · omega
        · exact ⟨by omega,by omega⟩
  · rcases h3 with h3|⟨k1,k2⟩
    · omega
    · exact ⟨by omega,by omega⟩

theorem Uu {b:UInt8} {d:Nat} (h:KE b=some d):d<16:=by
  unfold KE at h
  simp only at h
  split at h
  · cases h; omega
  · split at h
    · cases h; omega
    · split at h
      · cases h; omega
      · cases h

theorem u64w {n:Int} (h0:0≤n) (h:n≤18446744073709551615):IntKind.u64.wrap n=n:=by
  simp only[IntKind.wrap,IntKind.bits,IntKind.signed]
  simp
  omega

theorem To {R:Type} {s x22:aj} {i v:Nat} (hi:i<s.length) (hs:s.length≤1000) (hv:v<4096) (fT:Int→Bool→aj→Int→Int→Bool→Int→Nat→Int→Int→(List Int)→Option R) (e0:aj→Bool→Int→Option R) (e1 e2:Int→aj→Bool→Int→Option R) (e3:Int→aj→Bool→Option R) :
    dB internal_strconv_lower fT 16 false x22 1152921504606846976 65535 false (v:Int) s.length (s.length:Int) (i:Int) (oy s) e0 e1 e2 e3 =
      match KE (s[i])with
      | some d=>fT 16 false x22 1152921504606846976 65535 false ((16*v+d:Nat):Int) s.length (s.length:Int) ((i+1:Nat):Int) (oy s)
      | none=>e1 0 x22 false (v:Int):=by
  unfold dB
  have Pv:∀(n:Int) (f:Int→Option R),internal_strconv_lower n f=f (zy n):=fun _ _=>rfl
  have CC:(oy s).getD (i:Int).toNat (Ty.cn (.int .u8))=(s[i].toNat:Int):=by
    rw[Int.toNat_natCast]
    show (s.map fun b=>(b.toNat:Int)).getD i _=_
    simp[List.getD,hi]
    rfl
  rw[bq (show (i:Int)<(s.length:Int) by omega),cond_true,aT (by rw[bq (show (0:Int)≤(i:Int) by omega)]; rfl),
    aT (bq (by rw[Int.toNat_natCast,JE,Hj]; exact hi))]
  simp only[CC,Pv]
  obtain ⟨f1,f2,f3⟩:=Y5 s[i].toNat (UInt8.toNat_lt _)
  have hb:=UInt8.toNat_lt s[i]
  generalize hbn:s[i].toNat=b at *
  have hw16:IntKind.u8.wrap 16=16:=by decide
  have hw64:IntKind.u64.wrap 16=16:=by decide
  have hi1:IntKind.i64.wrap ((i:Int)+1)=((i+1:Nat):Int):=by rw[dD (by omega) (by omega)]; omega
  -- a digit's value, if it is below 16
  have fit:∀d:Nat,d<16→∀z:Int,z=(d:Int)→(bif (decide (z≥(IntKind.u8.wrap 16)))then (e1 0 x22 false (v:Int))else (bif (decide ((v:Int)≥1152921504606846976))then (e2 65535 x22 false (v:Int))else (bif (decide ((IntKind.u64.wrap ((IntKind.u64.wrap ((v:Int)*(IntKind.u64.wrap 16)))+(IntKind.u64.wrap z)))<(IntKind.u64.wrap ((v:Int)*(IntKind.u64.wrap 16)))))then (e2 65535 x22 false (IntKind.u64.wrap ((v:Int)*(IntKind.u64.wrap 16))))else (bif (decide ((IntKind.u64.wrap ((IntKind.u64.wrap ((v:Int)*(IntKind.u64.wrap 16)))+(IntKind.u64.wrap z)))>65535))then (e2 65535 x22 false (IntKind.u64.wrap ((v:Int)*(IntKind.u64.wrap 16))))else (fT 16 false x22 1152921504606846976 65535 false (IntKind.u64.wrap ((IntKind.u64.wrap ((v:Int)*(IntKind.u64.wrap 16)))+(IntKind.u64.wrap z))) s.length (s.length:Int) (IntKind.i64.wrap ((i:Int)+1)) (oy s)))))) =
      fT 16 false x22 1152921504606846976 65535 false ((16*v+d:Nat):Int) s.length (s.length:Int) ((i+1:Nat):Int) (oy s):=by
    intro d hd z hz
    subst hz
    have k1:IntKind.u64.wrap ((v:Int)*16)=(v:Int)*16:=u64w (by omega) (by omega)
    have k2:IntKind.u64.wrap (d:Int)=d:=u64w (by omega) (by omega)
    have k3:IntKind.u64.wrap ((v:Int)*16+(d:Int))=(v:Int)*16+(d:Int):=u64w (by omega) (by omega)
    rw[hw16,hw64,k1,k2,k3,hi1,cY (show ¬(d:Int)≥16 by omega),cond_false,cY (show ¬(v:Int)≥1152921504606846976 by omega),cond_false,cY (show ¬(v:Int)*16+(d:Int)<(v:Int)*16 by omega),cond_false,
      cY (show ¬(v:Int)*16+(d:Int)>65535 by omega),cond_false]
    have:(v:Int)*16+(d:Int)=((16*v+d:Nat):Int):=by omega
    rw[this]
  rw[cond_false,Bool.cond_self]
  unfold KE
  simp only[hbn]
  by_cases h1:48≤b∧b≤57
  · rw[bq (show (48:Int)≤(b:Int) by omega),cond_true,bq (show (b:Int)≤57 by omega),cond_true,if_pos h1]
    exact fit (b - 48) (by omega) _ (f1 h1)
  · rw[if_neg h1]
    have W0:∀x z:Option R,(bif (decide ((48:Int)≤(b:Int)))then (bif (decide ((b:Int)≤(57:Int)))then x else z)else z)=z:=by
      intro x z
      by_cases h:(48:Int)≤(b:Int)
      · rw[bq h,cond_true,cY (show ¬(b:Int)≤57 by omega),cond_false]
      · rw[cY h,cond_false]
    simp only[cond_false]
    rw[W0]
    by_cases h2:(97:Int)≤zy b
    · rw[bq h2,cond_true]
      by_cases h3:zy b≤122
      · rw[bq h3,cond_true]
        obtain ⟨_,_,g1,g2,g3⟩:=f2 h2 h3
        rw[g1]
        by_cases h4:zy b - 87<16
        · rcases g2 h4 with ⟨q1,q2⟩|⟨q1,q2⟩
          · rw[if_pos q1]
            exact fit (b - 55) (by omega) _ q2
          · rw[if_neg (by omega),if_pos q1]
            exact fit (b - 87) (by omega) _ q2
        · obtain ⟨q1,q2⟩:=g3 (by omega)
          rw[hw16,bq (show zy b - 87≥16 by omega),cond_true,if_neg q1,if_neg q2]
      · rw[cY h3,cond_false]
        obtain ⟨q1,q2⟩:=f3 (by omega)
        rw[if_neg q1,if_neg q2]
    · rw[cY h2,cond_false]
      obtain ⟨q1,q2⟩:=f3 (by omega)
      rw[if_neg q1,if_neg q2]

theorem Wa (s:aj) (i v:Nat) (hi:i<s.length):Ix (s.drop i) v=match KE s[i]with|some d=>Ix (s.drop (i+1)) (16*v+d)|none=>none:=by
  rw[List.drop_eq_getElem_cons hi]
  rfl

theorem Wb {R:Type} {s x22:aj} (hs:s.length≤4) (e0:aj→Bool→Int→Option R) (e1 e2:Int→aj→Bool→Int→Option R) (e3:Int→aj→Bool→Option R):∀(n i v:Nat),s.length - i<n→i≤s.length→v<16 ^ i →
    (match Ix (s.drop i) v with
     | some u=>aH n 16 false x22 1152921504606846976 65535 false (v:Int) s.length (s.length:Int) (i:Int) (oy s) e0 e1 e2 e3=e0 x22 false (u:Int)
     | none=>∃w,aH n 16 false x22 1152921504606846976 65535 false (v:Int) s.length (s.length:Int) (i:Int) (oy s) e0 e1 e2 e3=e1 0 x22 false w):=by
  intro n
  induction n with
  | zero=>intro i v h; omega
  | succ n ih =>
    intro i v h hi hv
    by_cases kY:i<s.length
    · have VE:v<4096:=by
        have:16 ^ i≤16 ^ 3:=Nat.pow_le_pow_right (by omega) (by omega)
        have e:(16:Nat) ^ 3=4096:=rfl
        omega
      have hr:=To (R:=R) (x22:=x22) kY (by omega) VE (fun l0 l7 nj vj D1 D2 KA KB KC KD zT=>aH n l0 l7 nj vj D1 D2 KA KB KC KD zT e0 e1 e2 e3) e0 e1 e2 e3
      have hL:aH (n+1) 16 false x22 1152921504606846976 65535 false (v:Int) s.length (s.length:Int) (i:Int) (oy s) e0 e1 e2 e3 =
        dB internal_strconv_lower (fun l0 l7 nj vj D1 D2 KA KB KC KD zT=>aH n l0 l7 nj vj D1 D2 KA KB KC KD zT e0 e1 e2 e3) 16 false x22 1152921504606846976 65535 false (v:Int) s.length (s.length:Int) (i:Int) (oy s) e0 e1 e2 e3:=rfl
      rw[hL,hr,Wa s i v kY]
      cases hx:KE s[i]with
      | none=>exact ⟨_,rfl⟩
      | some d =>
        have hd:=Uu hx
        have:(16:Nat) ^ (i+1)=16 ^ i*16:=Nat.pow_succ ..
        exact ih (i+1) (16*v+d) (by omega) (by omega) (by omega)
    · have e:s.drop i = []:=List.drop_eq_nil_of_le (by omega)
      rw[e]
      simp only[Ix]
      show dB internal_strconv_lower _ 16 false x22 1152921504606846976 65535 false (v:Int) s.length (s.length:Int) (i:Int) (oy s) e0 e1 e2 e3=_
      unfold dB
      rw[cY (show ¬(i:Int)<(s.length:Int) by omega),cond_false]


theorem parse4 {R:Type} {s:aj} (hs:s.length=4) (k0 k1:Int→Option R):dU s 16 16 k0 k1=match Ix s 0 with|some u=>k1 (u:Int)|none=>k0 0:=by
  show p7 cw s 16 16 k0 k1=_
  unfold p7
  show j4 internal_strconv_lower bp aH s 16 16 _ _ _ _ _=_
  unfold j4
  have h1:(s==([]:aj))=false:=by rw[beq_eq_false_iff_ne]; rintro rfl; simp at hs
  rw[h1,cond_false]
  have c1:decide ((2:Int)≤16)=true:=by decide
  have c2:decide ((16:Int)≤36)=true:=by decide
  have c3:((16:Int)==0)=false:=by decide
  have c4:decide ((16:Int)<0)=false:=by decide
  have c5:decide ((16:Int)>64)=false:=by decide
  have c6:((16:Int)==10)=false:=by decide
  have c7:((16:Int)==16)=true:=by decide
  have c8:decide ((0:Int)≤IntKind.u64.wrap 16)=true:=by decide
  have c9:(IntKind.u64.wrap ((IntKind.u64.wrap (1*2 ^ (min ((IntKind.u64.wrap 16).toNat) IntKind.u64.bits))) - 1))=65535:=by decide +kernel
  dsimp only
  rw[c1,cond_true,c2,cond_true,c3,cond_false,c4,cond_false,c5,cond_false,c6,cond_false,c7,cond_true]
  rw[c8,aT rfl,c9]
  have hb:decide (s.length≤281474976710656)=true:=bq (by omega)
  have key:=fun (n:Nat) (hn:4<n) (e0:aj→Bool→Int→Option R) (e1 e2:Int→aj→Bool→Int→Option R) (e3:Int→aj→Bool→Option R)=>Wb (R:=R) (s:=s) (x22:=s) (by omega) e0 e1 e2 e3 n 0 0 (by omega) (by omega) (by omega)
  have z0:(((0:Nat):Int))=0:=rfl
  simp only[List.drop_zero,z0]at key
  cases hx:Ix s 0 with
  | some u =>
    simp only[hx]at key
    rw[key _ (by omega)]
    rfl
  | none =>
    simp only[hx]at key
    generalize hF:(Int.natAbs 16+List.length s+Int.natAbs 1152921504606846976+Int.natAbs 65535+Int.natAbs 0+Int.natAbs (s.length:Int)+Int.natAbs 0+List.length (oy s)+64)=F at *
    obtain ⟨w,hw⟩:=key F (by rw[←hF]; omega) _ _ _ _
    rw[hw,aT (by rfl),hb,aT rfl]
end Go.Proofs.YtmlkkgfenfdndaaGreatDoor

/-
  Functions of the program as pure Lean functions, and the ties; printed by wip/tools/emit.py.
-/
set_option maxRecDepth 100000
namespace Go.Proofs.YtmlkkgfenfdndaaGreatDoor
open Go Go.ay

/-! ### humpyard/quote.Unquote -/
abbrev qk (R:Type):Type:=aj→(aj→Int→Bool→Option R)→Option R
abbrev vd:List bP := [.leaf (.str)]
abbrev ve:List aI := []
noncomputable def Dm {R:Type} (fn:qk R):bP.av vd→aI.av ve→(V→az→Option R)→Option R:=fun x y k=>fn x.1 (fun q0 q1 q2=>k (.tuple [.str q0, .int .i64 q1, .bool q2]) [])
abbrev ko (R:Type):Type:=Nat→aj→aj→(List Int)→(aj→aj→(List Int)→Option R)→(aj→aj→Int→Bool→aj→(List Int)→Option R)→Option R
noncomputable def nk (R:Type) (ai:bK R) (aD:dh R) (bt:fg R) (aZ:eM R):Env R:=fun i=>match i with
  | 53=>some (false,(aA fH fI (kU ai) bg))
  | 39=>some (false,(DP R))
  | 107=>some (false,(aA jQ jR (oz aD) bg))
  | 108=>some (false,(aA lV lW (sP bt) bg))
  | 109=>some (false,(aA kK kL (rC aZ) bg))
  | _=>none
theorem Iy (R:Type):pK Tryz.prog (nk R ai aD bt aZ):=by
  intro i b sp h
  unfold nk at h
  split at h
  · cases h; exact ⟨(nL R _ (aO _)),fun _ h=>nomatch h⟩
  · cases h; exact ⟨(K2),fun _ _=>FT⟩
  · cases h; exact ⟨(r9 R _ (aO _)),fun _ h=>nomatch h⟩
  · cases h; exact ⟨(zX R _ (aO _)),fun _ h=>nomatch h⟩
  · cases h; exact ⟨(yq R _ (aO _)),fun _ h=>nomatch h⟩
  · cases h

noncomputable def p8 {R:Type} (ai:bK R) (aD:dh R) (bt:fg R) (aZ:eM R) (fT:aj→aj→(List Int)→Option R) (x4:aj) (x5:aj) (x6:List Int) (e0:aj→aj→(List Int)→Option R) (e1:aj→aj→Int→Bool→aj→(List Int)→Option R):Option R :=
  aD ([34]:aj) x5 (fun y7 y8=>bif (!y7)then (aD ([92]:aj) y8 (fun y9 yf=>bif y9 then (aZ yf (fun wc zO=>bif (decide (wc<(0:Int)))then (e1 x4 ([]:aj) 0 false zO x6)else (ai wc x6 (fun Ek Da=>fT x4 zO Da))))else (bt yf (fun F7 GB=>bif (decide (F7<(0:Int)))then (e1 x4 ([]:aj) 0 false GB x6)else (ai F7 x6 (fun Kc Hw=>fT x4 GB Hw))))))else (e0 x4 y8 x6))
noncomputable def bk {R:Type}:ko R
  | 0,_,_,_,_,_=>none
  | n+1,l0,l7,nj,e0,e1=>p8 ai aD bt aZ (fun l0 l7 nj=>bk n l0 l7 nj e0 e1) l0 l7 nj e0 e1
noncomputable def p9:Hint := { live := [0,5,6],own := [],rows := [],cells := [(1,1,(.int .u8),false)],drop := [],out := [0,2,3,4,5,6] }
abbrev gT:Type:=aj × aj × (List Int)
noncomputable def oj:gT→St:=fun d=>⟨[.str d.1, .undef, .undef, .undef, .undef, .ptr 0 0, .ptr 1 0, .undef, .undef, .undef, .undef, .undef, .undef, .undef, .undef, .undef, .undef, .undef, .undef, .undef, .undef, .undef, .undef, .undef, .undef, .undef, .undef, .undef, .undef, .undef, .undef, .undef, .undef, .undef, .undef, .undef, .undef, .undef, .undef], [.cells [.str d.2.1], .kI (.sl (.int .u8) d.2.2 (.own 2)), .tok]⟩
noncomputable def sQ {R:Type} (K:Ex→St→Option R) (q0:aj) (q1:aj) (q2:List Int):Option R:=K (.exit 0) ⟨[.str q0, .undef, .undef, .undef, .undef, .ptr 0 0, .ptr 1 0, .undef, .undef, .undef, .undef, .undef, .undef, .undef, .undef, .undef, .undef, .undef, .undef, .undef, .undef, .undef, .undef, .undef, .undef, .undef, .undef, .undef, .undef, .undef, .undef, .undef, .undef, .undef, .undef, .undef, .undef, .undef, .undef], [.cells [.str q1], .kI (.sl (.int .u8) q2 (.own 2)), .tok]⟩
noncomputable def sR {R:Type} (K:Ex→St→Option R) (q0:aj) (q1:aj) (q2:Int) (q3:Bool) (q4:aj) (q5:List Int):Option R:=K (.ret) ⟨[.str q0, .undef, .str q1, .int .i64 q2, .bool q3, .ptr 0 0, .ptr 1 0, .undef, .undef, .undef, .undef, .undef, .undef, .undef, .undef, .undef, .undef, .undef, .undef, .undef, .undef, .undef, .undef, .undef, .undef, .undef, .undef, .undef, .undef, .undef, .undef, .undef, .undef, .undef, .undef, .undef, .undef, .undef, .undef], [.cells [.str q4], .kI (.sl (.int .u8) q5 (.own 2)), .tok]⟩
noncomputable def uj {R:Type} (ai:bK R) (aD:dh R) (bt:fg R) (aZ:eM R) (K:Ex→St→Option R) (rc:gT→Option R) (d:gT):Option R:=p8 ai aD bt aZ (fun z0 z1 z2=>rc (z0,z1,z2)) d.1 d.2.1 d.2.2 (sQ K) (sR K)
noncomputable def lF {R:Type} (K:Ex→St→Option R) (n:Nat) (d:gT):Option R:=bk n d.1 d.2.1 d.2.2 (sQ K) (sR K)
abbrev gU:List bP := [.leaf (.str), .leaf (.undef), .leaf (.undef), .leaf (.undef), .leaf (.undef), .leaf (.ptr 0 0), .leaf (.ptr 1 0), .leaf (.undef), .leaf (.undef), .leaf (.undef), .leaf (.undef), .leaf (.undef), .leaf (.undef), .leaf (.undef), .leaf (.undef), .leaf (.undef), .leaf (.undef), .leaf (.undef), .leaf (.undef), .leaf (.undef), .leaf (.undef), .leaf (.undef), .leaf (.undef), .leaf (.undef), .leaf (.undef), .leaf (.undef), .leaf (.undef), .leaf (.undef), .leaf (.undef), .leaf (.undef), .leaf (.undef), .leaf (.undef), .leaf (.undef), .leaf (.undef), .leaf (.undef), .leaf (.undef), .leaf (.undef), .leaf (.undef), .leaf (.undef)]
abbrev gV:List aI := [.cells [.str], .kI (.Nd (.int .u8) 2), .tok]
noncomputable def uk (x:bP.av gU) (y:aI.av gV):Nat:=(List.length x.1+List.length y.1.1+List.length y.2.1+64)
noncomputable def um (x:bP.av gU) (y:aI.av gV):gT:=(x.1,y.1.1,y.2.1)
noncomputable def sS {R:Type} (L:ko R):bP.av gU→aI.av gV→(Ex→St→Option R)→Option R:=fun x y K=>L (uk x y) x.1 y.1.1 y.2.1 (sQ K) (sR K)
noncomputable def rD (R:Type) (bk:ko R):Nat→Option (Hint × cp R):=fun i=>match i with
  | 5=>some (p9,(gE gU gV (sS bk) qB))
  | _=>none

theorem D7 {R:Type} (ai:bK R) (aD:dh R) (bt:fg R) (aZ:eM R) (bk:ko R) (K:Ex→St→Option R) (rc:St→Option R) (d:gT):roundOf tt (nk R ai aD bt aZ) (rD R bk) 0 ((aQ (aL Tryz.f70)).getD 0 .skip) p9 (oj d) rc K=uj ai aD bt aZ K (fun d=>rc (oj d)) d:=by kernel_rfl
theorem CI {R:Type} (K:Ex→St→Option R) (n:Nat) (d:gT):lF K (n+1) d=uj ai aD bt aZ K (lF K n) d:=by kernel_rfl
theorem CJ {R:Type} (K:Ex→St→Option R) (d:gT):lF K 0 d=none:=by kernel_rfl
theorem D8 (x:bP.av gU) (y:aI.av gV):(⟨bP.cT gU x,aI.cT gV y⟩:St)=oj (um x y):=by kernel_rfl
theorem D9 {R:Type} (x:bP.av gU) (y:aI.av gV) (K:Ex→St→Option R):sS (bk) x y K=lF K (uk x y) (um x y):=by kernel_rfl
theorem Fx {R:Type} (other:cp R) (ho:pG tt (nk R ai aD bt aZ) (rD R bk) 0 ((aQ (aL Tryz.f70)).getD 0 .skip) p9 other):pG tt (nk R ai aD bt aZ) (rD R bk) 0 ((aQ (aL Tryz.f70)).getD 0 .skip) p9 (gE gU gV (sS (bk)) other) :=
  gW (A:=lF) ho (k9 oj (uj ai aD bt aZ) (lF) (CJ) (D7 ai aD bt aZ bk) (CI)) uk um D8 (D9)

noncomputable def vf {R:Type} (aD:dh R) (bk:ko R) (x1:aj) (k0:aj→Int→Bool→Option R):Option R :=
  aD ([34]:aj) x1 (fun y2 y3=>bif (!y2)then (k0 ([]:aj) 0 false)else (bk (List.length x1+List.length y3+List.length ([]:List Int)+64) x1 y3 ([]:List Int) (fun PQ Nh BW=>k0 (sD BW) (IntKind.i64.wrap ((PQ.length:Int) - (Nh.length:Int))) true) (fun Th Rk y24 IX JA IY=>k0 Rk y24 IX)))
noncomputable def eJ {R:Type}:qk R:=fun x1 k0=>vf aD bk x1 k0
theorem JF {R:Type} (ai:bK R) (aD:dh R) (bt:fg R) (aZ:eM R) (bk:ko R) (x1:aj) (k:V→az→Option R):iE tt (nk R ai aD bt aZ) (rD R bk) false Tryz.f70 (aL Tryz.f70) [.str x1] [] k =
    vf aD bk x1 (fun q0 q1 q2=>k (.tuple [.str q0, .int .i64 q1, .bool q2]) []):=by kernel_rfl
theorem Gc (R:Type):∀a∈aQ (aL Tryz.f70),cO tt (nk R ai aD bt aZ) (rD R bk) 0 a:=by
  refine bF 1 (by kernel_rfl) fun i hi => ?_
  match i,hi with
  | 0,_=>exact gb (by kernel_rfl) (Fx _ jL)
  | n+1,hi=>omega
theorem Hk (R:Type) (other:ay.Spec R) (ho:ay.Spec.Ok Tryz.prog 70 other):ay.Spec.Ok Tryz.prog 70 (aA vd ve (Dm eJ) other) :=
  bu ho (bj TT mixed (Iy R) (keep:=false) rfl rfl rfl rfl 0 (Gc R)) fun (x:bP.av vd) (y:aI.av ve) k=>JF ai aD bt aZ bk x.1 k

/-! ### humpyard/lexer.next -/
abbrev ph (R:Type):Type:=aj→(Token→Int→Option R)→Option R
abbrev AX:List bP := [.leaf (.str)]
abbrev AY:List aI := []
noncomputable def GF {R:Type} (fn:ph R):bP.av AX→aI.av AY→(V→az→Option R)→Option R:=fun x y k=>fn x.1 (fun q0 q1=>k (.tuple [.agg [.int .i64 q0.kind, .str q0.text, .int .i64 q0.num.aB, .int .i64 q0.num.exp, .int .i64 q0.at_], .int .i64 q1]) [])
noncomputable def AZ (R:Type) (eJ:qk R) (dz:qi R) (bX:jP R):Env R:=fun i=>match i with
  | 70=>some (true,(aA vd ve (Dm eJ) bg))
  | 69=>some (true,(aA u7 va (Di dz) bg))
  | 71=>some (true,(Uk R))
  | 47=>some (true,(aA uE uF (BC bX) bg))
  | _=>none
theorem MA (R:Type):pK Tryz.prog (AZ R eJ dz bX):=by
  intro i b sp h
  unfold AZ at h
  split at h
  · cases h; exact ⟨(Hk R _ (aO _)),fun h=>nomatch h⟩
  · cases h; exact ⟨(Hi R _ (aO _)),fun h=>nomatch h⟩
  · cases h; exact ⟨(YO),fun h=>nomatch h⟩
  · cases h; exact ⟨(Df R _ (aO _)),fun h=>nomatch h⟩
  · cases h

noncomputable def Iz (R:Type):Nat→Option (Hint × cp R):=fun i=>match i with
  | _=>none

noncomputable def A0 {R:Type} (eJ:qk R) (dz:qi R) (bX:jP R) (x1:aj) (k0:Token→Int→Option R):Option R :=
  cX (decide ((0:Int)<x1.length)) (let j23:=bX x1 ([97,98,99,100,101,102,103,104,105,106,107,108,109,110,111,112,113,114,115,116,117,118,119,120,121,122]:aj) (fun BW=>bif (BW==([116,114,117,101]:aj))then (k0 (⟨4,BW,⟨0,0⟩,0⟩:Token) (BW.length:Int))else (bif (BW==([102,97,108,115,101]:aj))then (k0 (⟨4,BW,⟨0,0⟩,0⟩:Token) (BW.length:Int))else (bif (!(BW==([110,117,108,108]:aj)))then (k0 (⟨0,([]:aj),⟨0,0⟩,0⟩:Token) 0)else (k0 (⟨4,BW,⟨0,0⟩,0⟩:Token) (BW.length:Int))))); bif (((x1.getD 0 0).toNat:Int)==45)then (bX x1 ([48,49,50,51,52,53,54,55,56,57,43,45,46,101,69]:aj) (fun y6=>dz y6 (fun y7 y8=>bif (!y8)then (k0 (⟨0,([]:aj),⟨0,0⟩,0⟩:Token) 0)else (k0 (⟨3,y6,⟨y7.aB,y7.exp⟩,0⟩:Token) (y6.length:Int)))))else (bif (decide (((x1.getD 0 0).toNat:Int)≥(48:Int)))then (bif (decide (((x1.getD 0 0).toNat:Int)≤(57:Int)))then (bX x1 ([48,49,50,51,52,53,54,55,56,57,43,45,46,101,69]:aj) (fun y9=>dz y9 (fun yf wc=>bif (!wc)then (k0 (⟨0,([]:aj),⟨0,0⟩,0⟩:Token) 0)else (k0 (⟨3,y9,⟨yf.aB,yf.exp⟩,0⟩:Token) (y9.length:Int)))))else (bif (((x1.getD 0 0).toNat:Int)==34)then (eJ x1 (fun F7 GB Kc=>bif (!Kc)then (k0 (⟨0,([]:aj),⟨0,0⟩,0⟩:Token) 0)else (k0 (⟨2,F7,⟨0,0⟩,0⟩:Token) GB)))else (bif (decide ((yL ([123,125,91,93,44,58]:aj) ((x1.getD 0 0).toNat:Int))≥(0:Int)))then (cX (decide ((1:Int)≤x1.length)) (k0 (⟨1,((x1.drop 0).take (1 - 0)),⟨0,0⟩,0⟩:Token) 1))else (j23))))else (bif (((x1.getD 0 0).toNat:Int)==34)then (eJ x1 (fun Hw PQ Nh=>bif (!Nh)then (k0 (⟨0,([]:aj),⟨0,0⟩,0⟩:Token) 0)else (k0 (⟨2,Hw,⟨0,0⟩,0⟩:Token) PQ)))else (bif (decide ((yL ([123,125,91,93,44,58]:aj) ((x1.getD 0 0).toNat:Int))≥(0:Int)))then (cX (decide ((1:Int)≤x1.length)) (k0 (⟨1,((x1.drop 0).take (1 - 0)),⟨0,0⟩,0⟩:Token) 1))else (j23)))))
noncomputable def fi {R:Type}:ph R:=fun x1 k0=>A0 eJ dz bX x1 k0
theorem NN {R:Type} (eJ:qk R) (dz:qi R) (bX:jP R) (x1:aj) (k:V→az→Option R):iE tt (AZ R eJ dz bX) (Iz R) false Tryz.f48 (aL Tryz.f48) [.str x1] [] k =
    A0 eJ dz bX x1 (fun q0 q1=>k (.tuple [.agg [.int .i64 q0.kind, .str q0.text, .int .i64 q0.num.aB, .int .i64 q0.num.exp, .int .i64 q0.at_], .int .i64 q1]) []):=by kernel_rfl
theorem JG (R:Type):∀a∈aQ (aL Tryz.f48),cO tt (AZ R eJ dz bX) (Iz R) 0 a:=by
  refine bF 0 (by kernel_rfl) fun i hi => ?_
  omega
theorem KF (R:Type) (other:ay.Spec R) (ho:ay.Spec.Ok Tryz.prog 48 other):ay.Spec.Ok Tryz.prog 48 (aA AX AY (GF fi) other) :=
  bu ho (bj TT mixed (MA R) (keep:=false) rfl rfl rfl rfl 0 (JG R)) fun (x:bP.av AX) (y:aI.av AY) k=>NN eJ dz bX x.1 k

/-! ### humpyard/lexer.Scan -/
abbrev uP (R:Type):Type:=aj→((List Token)→Int→Int→Option R)→Option R
abbrev A1:List bP := [.leaf (.str)]
abbrev A2:List aI := []
noncomputable def GG {R:Type} (fn:uP R):bP.av A1→aI.av A2→(V→az→Option R)→Option R:=fun x y k=>fn x.1 (fun q0 q1 q2=>k (.tuple [.sl .token q0 .no, .int .i64 q1, .int .i64 q2]) [])
abbrev mY (R:Type):Type:=Nat→aj→(List Token)→Int→((List Token)→Int→Int→Option R)→(Int→Int→Option R)→Option R
noncomputable def qM (R:Type) (fi:ph R) (bX:jP R):Env R:=fun i=>match i with
  | 48=>some (true,(aA AX AY (GF fi) bg))
  | 47=>some (true,(aA uE uF (BC bX) bg))
  | _=>none
theorem MB (R:Type):pK Tryz.prog (qM R fi bX):=by
  intro i b sp h
  unfold qM at h
  split at h
  · cases h; exact ⟨(KF R _ (aO _)),fun h=>nomatch h⟩
  · cases h; exact ⟨(Df R _ (aO _)),fun h=>nomatch h⟩
  · cases h

noncomputable def yr {R:Type} (fi:ph R) (bX:jP R) (fT:aj→(List Token)→Int→Option R) (x2:aj) (x3:List Token) (x4:Int) (e0:(List Token)→Int→Int→Option R) (e1:Int→Int→Option R):Option R :=
  cX (decide ((0:Int)≤(x2.length:Int))&&decide ((x2.length:Int)≤x2.length)) (cX (decide ((0:Int)≤x4)&&decide (x4≤(x2.length:Int))) (bX ((x2.drop x4.toNat).take ((x2.length:Int).toNat - x4.toNat)) ([32,9,10,13]:aj) (fun y5=>bif ((IntKind.i64.wrap (x4+(y5.length:Int)))==(x2.length:Int))then (cX (decide ((x3.length+1)*48≤140737488355328)) (e0 (x3++([(⟨5,([]:aj),⟨0,0⟩,(IntKind.i64.wrap (x4+(y5.length:Int)))⟩:Token)]:List Token)) 0 0))else (cX (decide ((0:Int)≤(x2.length:Int))&&decide ((x2.length:Int)≤x2.length)) (cX (decide ((0:Int)≤(IntKind.i64.wrap (x4+(y5.length:Int))))&&decide ((IntKind.i64.wrap (x4+(y5.length:Int)))≤(x2.length:Int))) (fi ((x2.drop (IntKind.i64.wrap (x4+(y5.length:Int))).toNat).take ((x2.length:Int).toNat - (IntKind.i64.wrap (x4+(y5.length:Int))).toNat)) (fun y6 y7=>bif (y7==0)then (e1 30 (IntKind.i64.wrap (x4+(y5.length:Int))))else (cX (decide ((x3.length+1)*48≤140737488355328)) (fT x2 (x3++([(⟨y6.kind,y6.text,⟨y6.num.aB,y6.num.exp⟩,(IntKind.i64.wrap (x4+(y5.length:Int)))⟩:Token)]:List Token)) (IntKind.i64.wrap ((IntKind.i64.wrap (x4+(y5.length:Int)))+y7)))))))))))
noncomputable def cB {R:Type}:mY R
  | 0,_,_,_,_,_=>none
  | n+1,l0,l7,nj,e0,e1=>yr fi bX (fun l0 l7 nj=>cB n l0 l7 nj e0 e1) l0 l7 nj e0 e1
noncomputable def tz:Hint := { live := [0,2,4],own := [(2, .token)],rows := [],cells := [],drop := [],out := [2,3,4] }
abbrev kq:Type:=aj × (List Token) × Int
noncomputable def qN:kq→St:=fun d=>⟨[.str d.1, .undef, .sl .token d.2.1 (.own 0), .undef, .int .i64 d.2.2, .undef, .undef, .undef, .undef, .undef, .undef, .undef, .undef, .undef, .undef, .undef, .undef, .undef, .undef, .undef, .undef, .undef, .undef, .undef, .undef, .undef, .undef, .undef, .undef, .undef, .undef, .undef, .undef, .undef, .undef, .undef, .undef, .undef, .undef, .undef, .undef, .undef, .undef, .undef, .undef], [.tok]⟩
noncomputable def xe {R:Type} (K:Ex→St→Option R) (q0:List Token) (q1:Int) (q2:Int):Option R:=K (.ret) ⟨[.undef, .undef, .sl .token q0 (.own 0), .int .i64 q1, .int .i64 q2, .undef, .undef, .undef, .undef, .undef, .undef, .undef, .undef, .undef, .undef, .undef, .undef, .undef, .undef, .undef, .undef, .undef, .undef, .undef, .undef, .undef, .undef, .undef, .undef, .undef, .undef, .undef, .undef, .undef, .undef, .undef, .undef, .undef, .undef, .undef, .undef, .undef, .undef, .undef, .undef], [.tok]⟩
noncomputable def xf {R:Type} (K:Ex→St→Option R) (q0:Int) (q1:Int):Option R:=K (.ret) ⟨[.undef, .undef, .cF, .int .i64 q0, .int .i64 q1, .undef, .undef, .undef, .undef, .undef, .undef, .undef, .undef, .undef, .undef, .undef, .undef, .undef, .undef, .undef, .undef, .undef, .undef, .undef, .undef, .undef, .undef, .undef, .undef, .undef, .undef, .undef, .undef, .undef, .undef, .undef, .undef, .undef, .undef, .undef, .undef, .undef, .undef, .undef, .undef], []⟩
noncomputable def yt {R:Type} (fi:ph R) (bX:jP R) (K:Ex→St→Option R) (rc:kq→Option R) (d:kq):Option R:=yr fi bX (fun z0 z1 z2=>rc (z0,z1,z2)) d.1 d.2.1 d.2.2 (xe K) (xf K)
noncomputable def nT {R:Type} (K:Ex→St→Option R) (n:Nat) (d:kq):Option R:=cB n d.1 d.2.1 d.2.2 (xe K) (xf K)
abbrev kr:List bP := [.leaf (.str), .leaf (.undef), .leaf (.Nd .token 0), .leaf (.undef), .leaf (.int .i64), .leaf (.undef), .leaf (.undef), .leaf (.undef), .leaf (.undef), .leaf (.undef), .leaf (.undef), .leaf (.undef), .leaf (.undef), .leaf (.undef), .leaf (.undef), .leaf (.undef), .leaf (.undef), .leaf (.undef), .leaf (.undef), .leaf (.undef), .leaf (.undef), .leaf (.undef), .leaf (.undef), .leaf (.undef), .leaf (.undef), .leaf (.undef), .leaf (.undef), .leaf (.undef), .leaf (.undef), .leaf (.undef), .leaf (.undef), .leaf (.undef), .leaf (.undef), .leaf (.undef), .leaf (.undef), .leaf (.undef), .leaf (.undef), .leaf (.undef), .leaf (.undef), .leaf (.undef), .leaf (.undef), .leaf (.undef), .leaf (.undef), .leaf (.undef), .leaf (.undef)]
abbrev ku:List aI := [.tok]
noncomputable def yu (x:bP.av kr) (y:aI.av ku):Nat:=(List.length x.1+List.length x.2.2.1+Int.natAbs x.2.2.2.2.1+64)
noncomputable def yv (x:bP.av kr) (y:aI.av ku):kq:=(x.1,x.2.2.1,x.2.2.2.2.1)
noncomputable def xg {R:Type} (L:mY R):bP.av kr→aI.av ku→(Ex→St→Option R)→Option R:=fun x y K=>L (yu x y) x.1 x.2.2.1 x.2.2.2.2.1 (xe K) (xf K)
noncomputable def xh (R:Type) (cB:mY R):Nat→Option (Hint × cp R):=fun i=>match i with
  | 3=>some (tz,(gE kr ku (xg cB) qB))
  | _=>none

theorem Gd {R:Type} (fi:ph R) (bX:jP R) (cB:mY R) (K:Ex→St→Option R) (rc:St→Option R) (d:kq):roundOf tt (qM R fi bX) (xh R cB) 0 ((aQ (aL Tryz.f25)).getD 0 .skip) tz (qN d) rc K=yt fi bX K (fun d=>rc (qN d)) d:=by kernel_rfl
theorem EK {R:Type} (K:Ex→St→Option R) (n:Nat) (d:kq):nT K (n+1) d=yt fi bX K (nT K n) d:=by kernel_rfl
theorem EL {R:Type} (K:Ex→St→Option R) (d:kq):nT K 0 d=none:=by kernel_rfl
theorem Ge (x:bP.av kr) (y:aI.av ku):(⟨bP.cT kr x,aI.cT ku y⟩:St)=qN (yv x y):=by kernel_rfl
theorem Gf {R:Type} (x:bP.av kr) (y:aI.av ku) (K:Ex→St→Option R):xg (cB) x y K=nT K (yu x y) (yv x y):=by kernel_rfl
theorem IA {R:Type} (other:cp R) (ho:pG tt (qM R fi bX) (xh R cB) 0 ((aQ (aL Tryz.f25)).getD 0 .skip) tz other):pG tt (qM R fi bX) (xh R cB) 0 ((aQ (aL Tryz.f25)).getD 0 .skip) tz (gE kr ku (xg (cB)) other) :=
  gW (A:=nT) ho (k9 qN (yt fi bX) (nT) (EL) (Gd fi bX cB) (EK)) yu yv Ge (Gf)

noncomputable def A3 {R:Type} (cB:mY R) (x1:aj) (k0:(List Token)→Int→Int→Option R):Option R :=
  bif (decide ((x1.length:Int)>(20000:Int)))then (k0 ([]:List Token) 30 0)else (cB (List.length x1+List.length ([]:List Token)+Int.natAbs 0+64) x1 ([]:List Token) 0 (fun y8 y9 yf=>k0 y8 y9 yf) (fun wc zO=>k0 ([]:List Token) wc zO))
noncomputable def kf {R:Type}:uP R:=fun x1 k0=>A3 cB x1 k0
theorem NO {R:Type} (fi:ph R) (bX:jP R) (cB:mY R) (x1:aj) (k:V→az→Option R):iE tt (qM R fi bX) (xh R cB) false Tryz.f25 (aL Tryz.f25) [.str x1] [] k =
    A3 cB x1 (fun q0 q1 q2=>k (.tuple [.sl .token q0 .no, .int .i64 q1, .int .i64 q2]) []):=by kernel_rfl
theorem JH (R:Type):∀a∈aQ (aL Tryz.f25),cO tt (qM R fi bX) (xh R cB) 0 a:=by
  refine bF 1 (by kernel_rfl) fun i hi => ?_
  match i,hi with
  | 0,_=>exact gb (by kernel_rfl) (IA _ jL)
  | n+1,hi=>omega
theorem KG (R:Type) (other:ay.Spec R) (ho:ay.Spec.Ok Tryz.prog 25 other):ay.Spec.Ok Tryz.prog 25 (aA A1 A2 (GG kf) other) :=
  bu ho (bj TT mixed (MB R) (keep:=false) rfl rfl rfl rfl 0 (JH R)) fun (x:bP.av A1) (y:aI.av A2) k=>NO fi bX cB x.1 k

/-! ### humpyard/humpyardlaw03.pick -/
abbrev uQ (R:Type):Type:=Int→Int→(Int→Option R)→Option R
abbrev A4:List bP := [.leaf (.int .i64), .leaf (.int .i64)]
abbrev A5:List aI := []
noncomputable def GH {R:Type} (fn:uQ R):bP.av A4→aI.av A5→(V→az→Option R)→Option R:=fun x y k=>fn x.1 x.2.1 (fun q0=>k (.int .i64 q0) [])
noncomputable def A6 (R:Type):Env R:=fun i=>match i with
  | _=>none
theorem MC (R:Type):pK Tryz.prog (A6 R):=by
  intro i b sp h
  unfold A6 at h
  split at h
  · cases h

noncomputable def IB (R:Type):Nat→Option (Hint × cp R):=fun i=>match i with
  | _=>none

noncomputable def IC {R:Type} (x1:Int) (x2:Int) (k0:Int→Option R):Option R :=
  bif (decide (x1<(0:Int)))then (cX (!decide (x2=0)) (k0 (Int.tmod (IntKind.i64.wrap (0 - (IntKind.i64.wrap (x1+1)))) x2)))else (cX (!decide (x2=0)) (k0 (Int.tmod x1 x2)))
noncomputable def kg {R:Type}:uQ R:=fun x1 x2 k0=>IC x1 x2 k0
theorem NP {R:Type} (x1:Int) (x2:Int) (k:V→az→Option R):iE tt (A6 R) (IB R) false Tryz.f27 (aL Tryz.f27) [.int .i64 x1, .int .i64 x2] [] k =
    IC x1 x2 (fun q0=>k (.int .i64 q0) []):=by kernel_rfl
theorem JI (R:Type):∀a∈aQ (aL Tryz.f27),cO tt (A6 R) (IB R) 0 a:=by
  refine bF 0 (by kernel_rfl) fun i hi => ?_
  omega
theorem KH (R:Type) (other:ay.Spec R) (ho:ay.Spec.Ok Tryz.prog 27 other):ay.Spec.Ok Tryz.prog 27 (aA A4 A5 (GH kg) other) :=
  bu ho (bj TT mixed (MC R) (keep:=false) rfl rfl rfl rfl 0 (JI R)) fun (x:bP.av A4) (y:aI.av A5) k=>NP x.1 x.2.1 k

/-! ### humpyard/humpyardlaw03.Word -/
abbrev GI (R:Type):Type:=FY→(aj→Option R)→Option R
abbrev Ea:List bP := [.agg [.int .i64, .int .i64, .int .i64, .sl (.int .i64)]]
abbrev Eb:List aI := []
noncomputable def NQ {R:Type} (fn:GI R):bP.av Ea→aI.av Eb→(V→az→Option R)→Option R:=fun x y k=>fn (⟨x.1.1,x.1.2.1,x.1.2.2.1,x.1.2.2.2.1⟩:FY) (fun q0=>k (.str q0) [])
noncomputable def A7 (R:Type) (bZ:iP R) (bS:iI R) (di:mi R) (bc:fb R) (kg:uQ R):Env R:=fun i=>match i with
  | 37=>some (true,(aA wH wI (CF bZ) bg))
  | 26=>some (true,(aA rM rN (wS bS) bg))
  | 28=>some (true,(aA zh zi (DQ di) bg))
  | 46=>some (true,(aA oF oG (tq bc) bg))
  | 27=>some (true,(aA A4 A5 (GH kg) bg))
  | _=>none
theorem MD (R:Type):pK Tryz.prog (A7 R bZ bS di bc kg):=by
  intro i b sp h
  unfold A7 at h
  split at h
  · cases h; exact ⟨(Ei R _ (aO _)),fun h=>nomatch h⟩
  · cases h; exact ⟨(yl R _ (aO _)),fun h=>nomatch h⟩
  · cases h; exact ⟨(Fb R _ (aO _)),fun h=>nomatch h⟩
  · cases h; exact ⟨(vp R _ (aO _)),fun h=>nomatch h⟩
  · cases h; exact ⟨(KH R _ (aO _)),fun h=>nomatch h⟩
  · cases h

noncomputable def ID (R:Type):Nat→Option (Hint × cp R):=fun i=>match i with
  | _=>none

noncomputable def IE {R:Type} (bZ:iP R) (bS:iI R) (di:mi R) (bc:fb R) (kg:uQ R) (x1:FY) (k0:aj→Option R):Option R :=
  kg x1.kind 4 (fun y2=>bif (y2==0)then (kg x1.aB 6 (fun y3=>cX (decide ((0:Int)≤y3)&&decide (y3<(6:Int))) (k0 (([([123]:aj),([125]:aj),([91]:aj),([93]:aj),([44]:aj),([58]:aj)]:List aj).getD y3.toNat (Ty.cn .str)))))else (bif (y2==1)then (cX (decide ((0:Int)≤(min (x1.text.length:Int) 30))&&decide ((min (x1.text.length:Int) 30)≤x1.text.length)) (cX (decide ((0:Int)≤(min (x1.text.length:Int) 30))) (bZ ((x1.text.drop 0).take ((min (x1.text.length:Int) 30).toNat - 0)) (fun y4=>bS y4 (fun y5 y6=>k0 y5)))))else (bif (y2==2)then (di x1.aB x1.exp (fun y7=>bc y7 (fun y8=>k0 y8)))else (kg x1.aB 3 (fun y9=>cX (decide ((0:Int)≤y9)&&decide (y9<(3:Int))) (k0 (([([116,114,117,101]:aj),([102,97,108,115,101]:aj),([110,117,108,108]:aj)]:List aj).getD y9.toNat (Ty.cn .str))))))))
noncomputable def ME {R:Type}:GI R:=fun x1 k0=>IE bZ bS di bc kg x1 k0
theorem NR {R:Type} (bZ:iP R) (bS:iI R) (di:mi R) (bc:fb R) (kg:uQ R) (x1:FY) (k:V→az→Option R):iE tt (A7 R bZ bS di bc kg) (ID R) false Tryz.f24 (aL Tryz.f24) [.agg [.int .i64 x1.kind, .int .i64 x1.aB, .int .i64 x1.exp, .sl (.int .i64) x1.text .no]] [] k =
    IE bZ bS di bc kg x1 (fun q0=>k (.str q0) []):=by kernel_rfl
theorem JJ (R:Type):∀a∈aQ (aL Tryz.f24),cO tt (A7 R bZ bS di bc kg) (ID R) 0 a:=by
  refine bF 0 (by kernel_rfl) fun i hi => ?_
  omega
theorem W1 (R:Type) (other:ay.Spec R) (ho:ay.Spec.Ok Tryz.prog 24 other):ay.Spec.Ok Tryz.prog 24 (aA Ea Eb (NQ ME) other) :=
  bu ho (bj TT mixed (MD R) (keep:=false) rfl rfl rfl rfl 0 (JJ R)) fun (x:bP.av Ea) (y:aI.av Eb) k=>NR bZ bS di bc kg (⟨x.1.1,x.1.2.1,x.1.2.2.1,x.1.2.2.2.1⟩:FY) k

end Go.Proofs.YtmlkkgfenfdndaaGreatDoor

set_option maxRecDepth 100000
namespace Go.Proofs.YtmlkkgfenfdndaaGreatDoor
open Go Go.ay Go.Lib

theorem MF:∀(l:aj) (v u:Nat),Ix l v=some u→u<(v+1)*16 ^ l.length
  | [],v,u,h=>by cases h; simp
  | b::t,v,u,h=>by
    simp only[Ix]at h
    cases hx:KE b with
    | none=>rw[hx]at h; cases h
    | some d =>
      rw[hx]at h
      have h1:=MF t _ _ h
      have hd:=Uu hx
      have h2:(16*v+d+1)*16 ^ t.length≤((v+1)*16)*16 ^ t.length:=Nat.mul_le_mul_right _ (by omega)
      rw[List.length_cons,Nat.pow_succ]
      have h3:(v+1)*16*16 ^ t.length=(v+1)*(16 ^ t.length*16):=by rw[Nat.mul_assoc,Nat.mul_comm 16]
      omega
theorem Rq:∀(l:aj) (v u:Nat),Ix l v=some u→∀b∈l,(KE b).isSome=true
  | [],v,u,h=>by simp
  | b::t,v,u,h=>by
    simp only[Ix]at h
    cases hx:KE b with
    | none=>rw[hx]at h; cases h
    | some d =>
      rw[hx]at h
      intro c hc
      rcases List.mem_cons.1 hc with rfl|hc
      · rw[hx]; rfl
      · exact Rq t _ _ h c hc
theorem Rr {b:UInt8} (h:(KE b).isSome=true):b.toNat<128∧b.toNat≠43∧b.toNat≠45∧b.toNat≠95:=by
  unfold KE at h
  simp only at h
  revert h
  (repeat' split) <;> intro h <;> first|omega|cases h

theorem Rs (cs:aj):∀s:aj,(∀b∈s,cs.contains b=false)→Mc s cs=false:=by
  have key:∀s:aj,(∀b∈s,cs.contains b=false)→indexAny s cs = -1:=by
    intro s
    induction s with
    | nil=>intro _; rfl
    | cons b s ih =>
      intro h
      unfold indexAny
      rw[h b (by simp)]
      have:=ih fun x hx=>h x (by simp[hx])
      simp[this]
  intro s h
  unfold Mc containsAny
  rw[key s h]
  rfl

def Ep (s:aj):Option (Nat × aj):=if s.length<4 then none else match Ix (s.take 4) 0 with|some v=>some (v,s.drop 4)|none=>none
theorem BI {s r:aj} {v:Nat} (h:Ep s=some (v,r)):v<65536∧4≤s.length∧r=s.drop 4:=by
  unfold Ep at h
  split at h
  · cases h
  · rename_i hl
    split at h
    · rename_i u hu
      cases h
      have:=MF _ _ _ hu
      rw[List.length_take,Nat.min_eq_left (by omega)]at this
      exact ⟨by omega,by omega,rfl⟩
    · cases h

theorem FU {n:Nat} (h:n<1114112):IntKind.i32.wrap (n:Int)=(n:Int):=Ou (by omega) (by omega)

theorem Uv {R:Type} (s:aj) (hs:s.length≤9000000000000000000) (k:Int→aj→Option R) :
    cC s k=match Ep s with|some (v,r)=>k (v:Int) r|none=>k (-1) s:=by
  show mv dU s k=_
  unfold mv
  by_cases hl:s.length<4
  · rw[bq (show (s.length:Int)<4 by omega),cond_true]
    unfold Ep
    rw[if_pos hl]
  · rw[cY (show ¬(s.length:Int)<4 by omega),cond_false,aT (bq (by omega))]
    have h4:(s.drop 0).take (4 - 0)=s.take 4:=rfl
    rw[h4,parse4 (by rw[List.length_take]; omega)]
    unfold Ep
    rw[if_neg hl]
    cases hu:Ix (s.take 4) 0 with
    | none=>rfl
    | some v =>
      have ze:=Rq _ _ _ hu
      have Tf:tI (s.take 4)=true:=List.all_eq_true.2 fun b hb=>bq (Rr (ze b hb)).1
      have hno:Mc (s.take 4) [43,45,95]=false:=Rs _ _ fun b hb=>by
        obtain ⟨_,g1,g2,g3⟩:=Rr (ze b hb)
        have e:∀x:UInt8,b.toNat≠x.toNat→(b==x)=false:=fun x hx=>by
          rw[beq_eq_false_iff_ne]; rintro rfl; exact hx rfl
        simp only[List.contains_cons,List.contains_nil,e 43 g1,e 45 g2,e 95 g3]
        rfl
      have hv:=(BI (s:=s) (r:=s.drop 4) (v:=v) (by unfold Ep; rw[if_neg hl,hu])).1
      have Nc:tI ([43,45,95]:aj)=true:=by decide
      simp only
      rw[aT (by rw[Tf,Nc,bq (show (s.take 4).length<4294967281 by rw[List.length_take]; omega)]; rfl),hno,cond_false,aT (by rw[bq (show (0:Int)≤(s.length:Int) by omega),bq (show (s.length:Int)≤s.length by omega)]; rfl),aT (bq (by omega))]
      rw[FU (by omega),Int.toNat_natCast,List.take_of_length_le (by rw[List.length_drop]; exact Nat.le_refl _)]

def IF (s:aj):Option (Nat × aj) :=
  match Ep s with
  | none=>none
  | some (v,r) =>
    if v<55296∨57344≤v then some (v,r)else if 56320≤v then none
    else if ([92,117]:aj).isPrefixOf r then
      match Ep (r.drop 2)with
      | none=>none
      | some (w,r2)=>if 56320≤w∧w<57344 then some (65536+(v - 55296)*1024+(w - 56320),r2)else none
    else none

theorem shl10 (n:Nat) (h:n<1024):IntKind.i32.wrap ((n:Int)*2 ^ (min 10 IntKind.i32.bits))=((n*1024:Nat):Int):=by
  have e:(n:Int)*2 ^ (min 10 IntKind.i32.bits)=((n*1024:Nat):Int):=by
    show (n:Int)*2 ^ 10=_
    omega
  rw[e,FU (by omega)]

theorem long_ok {R:Type} (s:aj) (hs:s.length≤9000000000000000000) (k:Int→aj→Option R) :
    match IF s with|some (c,r)=>cr s k=k (c:Int) r|none=>∃r,cr s k=k (-1) r:=by
  have e0:cr s k=mA aD cC s k:=rfl
  rw[e0]
  unfold mA
  rw[Uv s hs]
  unfold IF
  cases hu:Ep s with
  | none =>
    simp only
    exact ⟨s,by rw[bq (show (-1:Int)<55296 by omega),cond_true]⟩
  | some p =>
    obtain ⟨v,r⟩:=p
    obtain ⟨hv,hl,hr⟩:=BI hu
    have hrl:r.length≤9000000000000000000:=by rw[hr,List.length_drop]; omega
    simp only
    by_cases h1:v<55296
    · rw[if_pos (.inl h1),bq (show (v:Int)<55296 by omega)]
      simp only[cond_true]
    rw[cY (show ¬(v:Int)<55296 by omega),cond_false]
    by_cases h2:57344≤v
    · rw[if_pos (.inr h2),bq (show (v:Int)≥57344 by omega)]
      simp only[cond_true]
    rw[if_neg (by omega),cY (show ¬(v:Int)≥57344 by omega),cond_false]
    by_cases h3:56320≤v
    · rw[if_pos h3]
      exact ⟨r,by rw[bq (show (v:Int)≥56320 by omega),cond_true]⟩
    rw[if_neg h3,cY (show ¬(v:Int)≥56320 by omega),cond_false,K4 _ _ (by simp) hrl]
    cases hp:([92,117]:aj).isPrefixOf r with
    | false =>
      simp only[Bool.false_eq_true,if_false]
      exact ⟨r,rfl⟩
    | true =>
      simp only[if_true]
      have hrl2:(r.drop 2).length≤9000000000000000000:=by rw[List.length_drop]; omega
      have e2:r.drop ([92,117]:aj).length=r.drop 2:=rfl
      rw[Bool.not_true,cond_false,e2,Uv _ hrl2]
      cases TR:Ep (r.drop 2)with
      | none =>
        simp only
        exact ⟨r.drop 2,by rw[bq (show (-1:Int)<56320 by omega),cond_true]⟩
      | some q =>
        obtain ⟨w,r2⟩:=q
        obtain ⟨hw,P8,hr2⟩:=BI TR
        simp only
        by_cases h4:56320≤w∧w<57344
        · rw[if_pos h4]
          simp only
          rw[cY (show ¬(w:Int)<56320 by omega),cond_false,cY (show ¬(w:Int)≥57344 by omega),cond_false]
          have k1:IntKind.i32.wrap ((v:Int) - 55296)=((v - 55296:Nat):Int):=by
            have:(v:Int) - 55296=((v - 55296:Nat):Int):=by omega
            rw[this,FU (by omega)]
          rw[k1,shl10 _ (by omega)]
          have k2:IntKind.i32.wrap (65536+(((v - 55296)*1024:Nat):Int))=((65536+(v - 55296)*1024:Nat):Int):=by
            have:65536+(((v - 55296)*1024:Nat):Int)=((65536+(v - 55296)*1024:Nat):Int):=by omega
            rw[this,FU (by omega)]
          have k3:IntKind.i32.wrap (((65536+(v - 55296)*1024:Nat):Int)+(w:Int))=((65536+(v - 55296)*1024+w:Nat):Int):=by
            have:((65536+(v - 55296)*1024:Nat):Int)+(w:Int)=((65536+(v - 55296)*1024+w:Nat):Int):=by omega
            rw[this]
            simp only[IntKind.wrap,IntKind.bits,IntKind.signed]
            simp
            omega
          have k4:IntKind.i32.wrap (((65536+(v - 55296)*1024+w:Nat):Int) - 56320)=((65536+(v - 55296)*1024+(w - 56320):Nat):Int):=by
            have:((65536+(v - 55296)*1024+w:Nat):Int) - 56320=((65536+(v - 55296)*1024+(w - 56320):Nat):Int):=by omega
            rw[this,FU (by omega)]
          rw[k2,k3,k4]
        · rw[if_neg h4]
          refine ⟨r2,?_⟩
          by_cases h5:w<56320
          · rw[bq (show (w:Int)<56320 by omega),cond_true]
          · rw[cY (show ¬(w:Int)<56320 by omega),cond_false,bq (show (w:Int)≥57344 by omega),cond_true]

def Rt:aj→Option (Nat × aj)
  | []=>none
  | b::t =>
    if b.toNat=34∨b.toNat=92∨b.toNat=47 then some (b.toNat,t)else if b.toNat=98 then some (8,t)else if b.toNat=102 then some (12,t)else if b.toNat=110 then some (10,t)
    else if b.toNat=114 then some (13,t)else if b.toNat=116 then some (9,t)else if b.toNat=117 then IF t else none

theorem esc_ok {R:Type} (s:aj) (hs:s.length≤9000000000000000000) (k:Int→aj→Option R) :
    match Rt s with|some (c,r)=>aZ s k=k (c:Int) r|none=>∃r,aZ s k=k (-1) r:=by
  have e0:aZ s k=kN cr s k:=rfl
  rw[e0]
  unfold kN
  cases s with
  | nil=>exact ⟨[],rfl⟩
  | cons b t =>
    have j7:((b::t:aj)==([]:aj))=false:=rfl
    simp only[List.length_cons]at hs
    have ht:(((b::t:aj).drop 1).take (((b::t:aj).length:Int).toNat - 1))=t:=by
      rw[Int.toNat_natCast,List.drop_succ_cons,List.drop_zero,List.length_cons,Nat.add_sub_cancel,List.take_length]
    have hg:((b::t:aj).getD 0 0).toNat=b.toNat:=rfl
    rw[j7,cond_false,aT (bq (show (0:Int)<((b::t:aj).length:Int) by simp only[List.length_cons]; omega)),
      aT (by rw[bq (show (0:Int)≤((b::t:aj).length:Int) by omega),bq (show ((b::t:aj).length:Int)≤(b::t:aj).length by omega)]; rfl),
      aT (bq (show (1:Int)≤((b::t:aj).length:Int) by simp only[List.length_cons]; omega))]
    simp only[ht,hg]
    have hb:=UInt8.toNat_lt b
    simp only[Rt]
    generalize b.toNat=n at *
    have q:∀m:Nat,((n:Int)==(m:Int))=decide (n=m):=fun m=>by
      by_cases h:n=m
      · subst h; simp
      · have:¬((n:Int)=(m:Int)):=by omega
        simp[h,this]
    have q34:((n:Int)==34)=decide (n=34):=q 34
    have q92:((n:Int)==92)=decide (n=92):=q 92
    have q47:((n:Int)==47)=decide (n=47):=q 47
    have q98:((n:Int)==98)=decide (n=98):=q 98
    have q102:((n:Int)==102)=decide (n=102):=q 102
    have q110:((n:Int)==110)=decide (n=110):=q 110
    have q114:((n:Int)==114)=decide (n=114):=q 114
    have q116:((n:Int)==116)=decide (n=116):=q 116
    have q117:((n:Int)==117)=decide (n=117):=q 117
    simp only[q34,q92,q47,q98,q102,q110,q114,q116,q117,FU (show n<1114112 by omega)]
    by_cases GJ:n=34
    · subst GJ; simp
    by_cases PS:n=92
    · subst PS; simp
    by_cases h47:n=47
    · subst h47; simp
    simp only[GJ,PS,h47,decide_false,cond_false,or_self,if_false]
    by_cases h98:n=98
    · subst h98; simp
    by_cases h102:n=102
    · subst h102; simp
    by_cases h110:n=110
    · subst h110; simp
    by_cases h114:n=114
    · subst h114; simp
    by_cases h116:n=116
    · subst h116; simp
    by_cases h117:n=117
    · subst h117
      have:=long_ok (R:=R) t (by omega) k
      simp only[decide_true,decide_false,cond_true,cond_false,if_true,show ¬((117:Nat)=98) by decide,show ¬((117:Nat)=102) by decide,show ¬((117:Nat)=110) by decide,show ¬((117:Nat)=114) by decide,show ¬((117:Nat)=116) by decide,if_false]
      exact this
    simp only[h98,h102,h110,h114,h116,h117,decide_false,cond_false,if_false]
    exact ⟨t,rfl⟩

def EM:aj := [48,49,50,51,52,53,54,55,56,57,97,98,99,100,101,102]
def pj (c:Nat):Nat:=if c=34∨c=92 then c else if c=8 then 98 else if c=12 then 102 else if c=10 then 110 else if c=13 then 114 else if c=9 then 116 else 0
def qc (c:Nat):aj:=if pj c≠0 then [92,UInt8.ofNat (pj c)]else if c<32 then [92,117,48,48,EM.getD (c / 16) 0,EM.getD (c % 16) 0]else enc c
def IG (rs:List Nat):aj:=rs.flatMap qc
def qt (rs:List Nat):aj:=34::(IG rs ++ [34])

theorem Wc (c:Nat):pj c<256:=by unfold pj; (repeat' split) <;> omega
theorem Y6 {R:Type} (c:Nat) (k:Int→Option R):dO (c:Int) k=k (pj c:Int):=by
  show yU (c:Int) k=_
  unfold yU pj
  have b:∀n:Nat,((c:Int)==(n:Int))=decide (c=n):=fun n=>by
    by_cases h:c=n
    · subst h; simp
    · have:¬((c:Int)=(n:Int)):=by omega
      simp[h,this]
  have b34:((c:Int)==34)=decide (c=34):=b 34
  have b92:((c:Int)==92)=decide (c=92):=b 92
  have b8:((c:Int)==8)=decide (c=8):=b 8
  have b12:((c:Int)==12)=decide (c=12):=b 12
  have b10:((c:Int)==10)=decide (c=10):=b 10
  have b13:((c:Int)==13)=decide (c=13):=b 13
  have b9:((c:Int)==9)=decide (c=9):=b 9
  rw[b34,b92,b8,b12,b10,b13,b9]
  have w:IntKind.u8.wrap (c:Int)=((c % 256:Nat):Int):=YW c
  by_cases GJ:c=34
  · subst GJ; rfl
  by_cases PS:c=92
  · subst PS; rfl
  simp only[GJ,PS,decide_false,cond_false,or_self,if_false]
  by_cases h8:c=8
  · subst h8; rfl
  by_cases h12:c=12
  · subst h12; rfl
  by_cases h10:c=10
  · subst h10; rfl
  by_cases h13:c=13
  · subst h13; rfl
  by_cases h9:c=9
  · subst h9; rfl
  simp[h8,h12,h10,h13,h9]

theorem Ru (s:aj) (pos:Nat):mF s pos=decodeL (s.drop pos):=by
  unfold mF
  exact (decodeL_drop ⟨s.toArray⟩ pos).symm

theorem Rv (rs:List Nat) (c:Nat) (t:List Nat):cT (rs++c::t)=cT rs++(enc c++cT t):=by simp[cT]

theorem hexdig:∀c:Fin 32,(Int.fdiv (c.val:Int) (2 ^ (min 4 IntKind.i32.bits)))=((c.val / 16:Nat):Int)∧IntKind.i32.wrap ((BitVec.ofInt IntKind.i32.bits (c.val:Int) &&& BitVec.ofInt IntKind.i32.bits 15).toNat:Int)=((c.val % 16:Nat):Int):=by decide +kernel

theorem Y7 {c:Nat} (hv:vr c):(qc c).length≤6:=by
  unfold qc
  split
  · simp
  · split
    · simp
    · have:=Ay hv; omega

theorem Rw {R:Type} {x:aj} {pos c:Nat} (hp:pos<x.length) {t:aj} (hd:x.drop pos=enc c++t) (hv:vr c) (o:aj) (ho:o.length≤90000000000) (fT:List Int→aj→Nat→Option R) (e0:List Int→Option R) :
    lb ad dO af ai fT (zs o) x pos e0=fT (zs (o++qc c)) x (pos+(enc c).length):=by
  unfold lb
  have hr:mF x pos=(c,(enc c).length):=by rw[Ru,hd,H4 hv]
  rw[hr,bq hp,cond_true]
  simp only
  rw[Y6]
  have Pe:∀z:aj,z.length≤10→Iv (o++z):=fun z hz=>by unfold Iv; rw[List.length_append]; omega
  have Y8:Iv o:=by unfold Iv; omega
  by_cases hs:pj c≠0
  · have e:((pj c:Int) != 0)=true:=by
      exact bne_iff_ne.2 (by omega)
    rw[e,cond_true]
    have PS:(92:Int)=((92:UInt8).toNat:Int):=rfl
    rw[PS,wb _ o Y8]
    have h2:(pj c:Int)=((UInt8.ofNat (pj c)).toNat:Int):=by rw[gX _ (Wc c)]
    rw[h2,wb _ _ (Pe [92] (by simp))]
    have:qc c = [92,UInt8.ofNat (pj c)]:=by unfold qc; rw[if_pos hs]
    rw[this,List.append_assoc]
    rfl
  · have hs0:pj c=0:=by omega
    have e:((pj c:Int) != 0)=false:=by rw[hs0]; rfl
    rw[e,cond_false]
    by_cases Y9:c<32
    · rw[bq (show (c:Int)<32 by omega),cond_true,ws _ o (by simp) Y8]
      obtain ⟨k1,k2⟩:=hexdig ⟨c,Y9⟩
      simp only at k1 k2
      rw[k1,k2,aT (by rw[bq (by omega),bq (by omega)]; rfl)]
      rw[Int.toNat_natCast,Int.toNat_natCast,wb _ _ (Pe [92,117,48,48] (by simp)),aT (by rw[bq (by omega),bq (by omega)]; rfl)]
      rw[List.append_assoc o,wb _ _ (Pe _ (by simp))]
      have:qc c = [92,117,48,48,EM.getD (c / 16) 0,EM.getD (c % 16) 0]:=by unfold qc; rw[if_neg hs,if_pos Y9]
      rw[this,List.append_assoc o]
      rfl
    · rw[cY (show ¬(c:Int)<32 by omega),cond_false]
      obtain ⟨n,hn⟩:=wr hv o Y8 (fun Da F7=>fT F7 x (pos+(enc c).length))
      rw[hn]
      have:qc c=enc c:=by unfold qc; rw[if_neg hs,if_neg Y9]
      rw[this]

theorem Tp {R:Type} (rs:List Nat):∀(n:Nat) (done:List Nat) (o:aj),rs.length<n→(∀c∈rs,vr c)→(∀c∈done,vr c)→o.length+6*rs.length≤80000000000→∀e0:List Int→Option R,
    cg n (zs o) (cT (done++rs)) (cT done).length e0=e0 (zs (o++IG rs)):=by
  induction rs with
  | nil =>
    intro n done o hn _ _ _ e0
    obtain ⟨m,rfl⟩:∃m,n=m+1:=⟨n - 1,by simp at hn; omega⟩
    show lb ad dO af ai _ (zs o) (cT (done ++ [])) (cT done).length e0=_
    unfold lb
    rw[List.append_nil,cY (Nat.lt_irrefl _),cond_false]
    simp[IG]
  | cons c rs ih =>
    intro n done o hn hr hd hl e0
    obtain ⟨m,rfl⟩:∃m,n=m+1:=⟨n - 1,by simp at hn; omega⟩
    have hv:=hr c (by simp)
    have he:=Ay hv
    have hq:=Y7 hv
    simp only[List.length_cons]at hn hl
    show lb ad dO af ai (fun l0 l7 nj=>cg m l0 l7 nj e0) (zs o) (cT (done++c::rs)) (cT done).length e0=_
    rw[Rw (c:=c) (t:=cT rs) (by rw[Rv,List.length_append,List.length_append]; omega) (by rw[Rv,List.drop_left]) hv o (by omega)]
    have e1:done++c::rs=(done ++ [c])++rs:=by simp
    have e2:(cT done).length+(enc c).length=(cT (done ++ [c])).length:=by rw[Js,List.length_append]
    rw[e1,e2,ih m (done ++ [c]) (o++qc c) (by omega) (fun x hx=>hr x (by simp[hx])) (fun x hx=>by
      rcases List.mem_append.1 hx with h|h
      · exact hd x h
      · simp at h; subst h; exact hv) (by rw[List.length_append]; omega)]
    rw[List.append_assoc]
    rfl

theorem Hl:∀(rs:List Nat),(∀c∈rs,vr c)→rs.length≤(cT rs).length∧(cT rs).length≤4*rs.length
  | [],_=>by simp[cT]
  | c::rs,h=>by
    have h1:=Ay (h c (by simp))
    have h2:=Hl rs (fun x hx=>h x (by simp[hx]))
    have:cT (c::rs)=enc c++cT rs:=by simp[cT]
    rw[this,List.length_append,List.length_cons]
    omega
theorem OA:∀(rs:List Nat),(∀c∈rs,vr c)→(IG rs).length≤6*rs.length
  | [],_=>by simp[IG]
  | c::rs,h=>by
    have h1:=Y7 (h c (by simp))
    have h2:=OA rs (fun x hx=>h x (by simp[hx]))
    have:IG (c::rs)=qc c++IG rs:=by simp[IG]
    rw[this,List.length_append,List.length_cons]
    omega

theorem Za {R:Type} (rs:List Nat) (hr:∀c∈rs,vr c) (hl:rs.length≤10000000000) (k:aj→Bool→Option R):bS (cT rs) k=k (qt rs) true:=by
  have hc:=Hl rs hr
  have hq:=OA rs hr
  have hw:jt (cT rs)=true:=C8.2 ⟨rs,hr,rfl⟩
  show rO br ah ad cg (cT rs) k=_
  unfold rO
  have q:∀(x:aj) (f:Bool→Option R),br x f=f (jt x):=fun _ _=>rfl
  have q2:∀(x:Int) (f:List Int→Option R),ah x f=f [x]:=fun _ _=>rfl
  rw[q,hw,Bool.not_true,cond_false,q2]
  have e34:([34]:List Int)=zs [34]:=rfl
  rw[e34]
  have:=Tp (R:=R) rs (List.length (zs [34])+List.length (cT rs)+64) [] [34] (by omega) hr (by simp) (by simp; omega)
  rw[List.nil_append]at this
  have e0:(cT []).length=0:=rfl
  rw[e0]at this
  rw[this]
  have GJ:(34:Int)=((34:UInt8).toNat:Int):=rfl
  rw[GJ,wb _ _ (by unfold Iv; rw[List.length_append]; simp; omega),tu]
  rfl

theorem Wd {R:Type} (s:aj) (h:jt s=false) (k:aj→Bool→Option R):bS s k=k [] false:=by
  show rO br ah ad cg s k=_
  unfold rO
  have q:∀(x:aj) (f:Bool→Option R),br x f=f (jt x):=fun _ _=>rfl
  rw[q,h]
  rfl

def IH (s:aj):Option (Nat × aj):=if ([92]:aj).isPrefixOf s then Rt (s.drop 1)else D6 s
def uq:Nat→aj→aj→Option (aj × aj)
  | 0,_,_=>none
  | n+1,s,o=>if ([34]:aj).isPrefixOf s then some (o,s.drop 1)else match IH s with|none=>none|some (c,r)=>uq n r (o++enc c)

theorem Zb {s r:aj} {c:Nat} (h:IF s=some (c,r)):vr c∧r.length+4≤s.length:=by
  unfold IF at h
  split at h
  · cases h
  · rename_i v r1 hu
    obtain ⟨hv,hl,hr⟩:=BI hu
    split at h
    · cases h
      refine ⟨by unfold vr; omega,?_⟩
      rw[hr,List.length_drop]; omega
    · split at h
      · cases h
      · split at h
        · split at h
          · cases h
          · rename_i w r2 TR
            obtain ⟨hw,P8,hr2⟩:=BI TR
            split at h
            · simp only[Option.some.injEq,Prod.mk.injEq]at h
              obtain ⟨hc,rfl⟩:=h
              refine ⟨by unfold vr; omega,?_⟩
              rw[hr2,hr]
              simp only[List.length_drop]
              rw[hr]at P8
              simp only[List.length_drop]at P8
              omega
            · cases h
        · cases h

theorem Uw {s r:aj} {c:Nat} (h:Rt s=some (c,r)):vr c∧r.length<s.length:=by
  cases s with
  | nil=>cases h
  | cons b t =>
    simp only[Rt]at h
    have hb:=UInt8.toNat_lt b
    split at h
    · cases h; exact ⟨by unfold vr; omega,by simp⟩
    split at h
    · cases h; exact ⟨by unfold vr; omega,by simp⟩
    split at h
    · cases h; exact ⟨by unfold vr; omega,by simp⟩
    split at h
    · cases h; exact ⟨by unfold vr; omega,by simp⟩
    split at h
    · cases h; exact ⟨by unfold vr; omega,by simp⟩
    split at h
    · cases h; exact ⟨by unfold vr; omega,by simp⟩
    split at h
    · obtain ⟨h1,h2⟩:=Zb h
      exact ⟨h1,by simp only[List.length_cons]; omega⟩
    · cases h

theorem OB {s r:aj} {c:Nat} (h:D6 s=some (c,r)):vr c∧r.length<s.length:=by
  unfold D6 at h
  split at h
  · cases h
  · rename_i j7
    split at h
    · cases h
    · split at h
      · cases h
      · cases h
        have h1:=decodeL_width s
        have h2:0<s.length:=List.length_pos_iff.2 j7
        exact ⟨Tc s,by rw[List.length_drop]; omega⟩

theorem Rx {s r:aj} {c:Nat} (h:IH s=some (c,r)):vr c∧r.length<s.length:=by
  unfold IH at h
  split at h
  · obtain ⟨h1,h2⟩:=Uw h
    exact ⟨h1,by rw[List.length_drop]at h2; omega⟩
  · exact OB h

theorem Ux:∀(n m:Nat) (s o:aj),s.length<n→s.length<m→uq n s o=uq m s o
  | 0,_,_,_,h,_=>by omega
  | _+1,0,_,_,_,h=>by omega
  | n+1,m+1,s,o,hn,hm=>by
    unfold uq
    split
    · rfl
    · cases hs:IH s with
      | none=>rfl
      | some p =>
        obtain ⟨c,r⟩:=p
        obtain ⟨_,h2⟩:=Rx hs
        exact Ux n m r _ (by omega) (by omega)

theorem Zc {R:Type} (x:aj) (e0:aj→aj→List Int→Option R) (e1:aj→aj→Int→Bool→aj→List Int→Option R):∀(n:Nat) (s o:aj),s.length<n→o.length+4*s.length≤90000000000 →
    (match uq n s o with
     | some (o',r)=>bk n x s (zs o) e0 e1=e0 x r (zs o')
     | none=>∃a b,bk n x s (zs o) e0 e1=e1 x [] 0 false a b):=by
  intro n
  induction n with
  | zero=>intro s o h; omega
  | succ n ih =>
    intro s o h hb
    have hL:bk (n+1) x s (zs o) e0 e1=p8 ai aD bt aZ (fun l0 l7 nj=>bk n l0 l7 nj e0 e1) x s (zs o) e0 e1:=rfl
    rw[hL]
    unfold p8
    rw[K4 _ _ (by simp) (by omega)]
    simp only[uq]
    have Pe:Iv o:=by unfold Iv; omega
    by_cases GJ:([34]:aj).isPrefixOf s=true
    · rw[if_pos GJ,if_pos GJ]
      rfl
    · rw[if_neg GJ,if_neg GJ,Bool.not_false,cond_true,K4 _ _ (by simp) (by omega)]
      have fin:∀(c:Nat) (r:aj),vr c→r.length<s.length →
          (match uq n r (o++enc c)with
           | some (o',r')=>bk n x r (zs (o++enc c)) e0 e1=e0 x r' (zs o')
           | none=>∃a b,bk n x r (zs (o++enc c)) e0 e1=e1 x [] 0 false a b):=fun c r hv hr=>by
        have:=Ay hv
        exact ih r (o++enc c) (by omega) (by rw[List.length_append]; omega)
      unfold IH
      by_cases PS:([92]:aj).isPrefixOf s=true
      · rw[if_pos PS,if_pos PS]
        have T6:s.drop ([92]:aj).length=s.drop 1:=rfl
        rw[T6,cond_true]
        have hk:=esc_ok (R:=R) (s.drop 1) (by rw[List.length_drop]; omega) (fun wc zO=>bif (decide (wc<(0:Int)))then (e1 x ([]:aj) 0 false zO (zs o))else (ai wc (zs o) (fun Ek Da=>bk n x zO Da e0 e1)))
        cases he:Rt (s.drop 1)with
        | none =>
          rw[he]at hk
          obtain ⟨r,hk⟩:=hk
          exact ⟨r,zs o,hk.trans (by rw[bq (show (-1:Int)<0 by omega),cond_true])⟩
        | some p =>
          obtain ⟨c,r⟩:=p
          rw[he]at hk
          obtain ⟨hv,hr⟩:=Uw he
          rw[List.length_drop]at hr
          simp only at hk ⊢
          rw[hk,cY (show ¬(c:Int)<0 by omega),cond_false]
          obtain ⟨q,hq⟩:=wr hv o Pe (fun Ek Da=>bk n x r Da e0 e1)
          rw[hq]
          exact fin c r hv (by omega)
      · rw[if_neg PS,if_neg PS,cond_false]
        have hk:=Y3 (R:=R) s (by omega) (fun F7 GB=>bif (decide (F7<(0:Int)))then (e1 x ([]:aj) 0 false GB (zs o))else (ai F7 (zs o) (fun Kc Hw=>bk n x GB Hw e0 e1)))
        cases he:D6 s with
        | none =>
          rw[he]at hk
          simp only at hk ⊢
          exact ⟨s,zs o,hk.trans (by rw[bq (show (-1:Int)<0 by omega),cond_true])⟩
        | some p =>
          obtain ⟨c,r⟩:=p
          rw[he]at hk
          obtain ⟨hv,hr⟩:=OB he
          simp only at hk ⊢
          rw[hk,cY (show ¬(c:Int)<0 by omega),cond_false]
          obtain ⟨q,hq⟩:=wr hv o Pe (fun Kc Hw=>bk n x r Hw e0 e1)
          rw[hq]
          exact fin c r hv (by omega)

def Zd (s:aj):Option (aj × aj):=if ([34]:aj).isPrefixOf s then uq (s.length+1) (s.drop 1) []else none

theorem Tq {R:Type} (s:aj) (hs:s.length≤20000000000) (k:aj→Int→Bool→Option R) :
    eJ s k=match Zd s with|some (o,r)=>k o (IntKind.i64.wrap ((s.length:Int) - (r.length:Int))) true|none=>k [] 0 false:=by
  have e:eJ s k=vf aD bk s k:=rfl
  rw[e]
  unfold vf Zd
  rw[K4 _ _ (by simp) (by omega)]
  by_cases GJ:([34]:aj).isPrefixOf s=true
  · rw[if_pos GJ,if_pos GJ,Bool.not_true,cond_false]
    have e1:s.drop ([34]:aj).length=s.drop 1:=rfl
    rw[e1]
    have hd:(s.drop 1).length≤s.length:=by rw[List.length_drop]; omega
    have key:=Zc (R:=R) s (fun PQ Nh BW=>k (sD BW) (IntKind.i64.wrap ((PQ.length:Int) - (Nh.length:Int))) true) (fun Th Rk y24 IX JA IY=>k Rk y24 IX) (List.length s+List.length (s.drop 1)+List.length ([]:List Int)+64) (s.drop 1) [] (by omega) (by simp only[List.length_nil]; omega)
    rw[Ux _ (s.length+1) (s.drop 1) [] (by omega) (by omega)]at key
    cases hu:uq (s.length+1) (s.drop 1) []with
    | none =>
      rw[hu]at key
      obtain ⟨a,b,key⟩:=key
      exact key
    | some p =>
      obtain ⟨o,r⟩:=p
      rw[hu]at key
      simp only at key ⊢
      refine Eq.trans key ?_
      rw[tu]
  · rw[if_neg GJ,if_neg GJ]
    rfl

theorem MG (a b:UInt8) (t:aj):([a]:aj).isPrefixOf (b::t)=(a==b):=by
  simp[List.isPrefixOf]

theorem Ze:∀c:Fin 32,Ix [48,48,EM.getD (c.val / 16) 0,EM.getD (c.val % 16) 0] 0=some c.val:=by decide +kernel

theorem u8_ne {b:UInt8} {n:Nat} (hn:n<256) (h:b.toNat≠n):((UInt8.ofNat n)==b)=false:=by
  rw[beq_eq_false_iff_ne]
  rintro rfl
  rw[gX n hn]at h
  exact h rfl

theorem We {c:Nat} (hv:vr c) (h:32≤c) (GJ:c≠34) (PS:c≠92):∃b t,enc c=b::t∧b.toNat≠34∧b.toNat≠92:=by
  have kY:=Ot hv
  rcases C7 hv with ⟨h1,e⟩|⟨h0,h1,e⟩|⟨h0,h1,e⟩|⟨h0,e⟩
  · exact ⟨_,_,e,by rw[gX _ (by omega)]; exact GJ,by rw[gX _ (by omega)]; exact PS⟩
  · exact ⟨_,_,e,by rw[gX _ (by omega)]; omega,by rw[gX _ (by omega)]; omega⟩
  · exact ⟨_,_,e,by rw[gX _ (by omega)]; omega,by rw[gX _ (by omega)]; omega⟩
  · exact ⟨_,_,e,by rw[gX _ (by omega)]; omega,by rw[gX _ (by omega)]; omega⟩

theorem PT (c:Nat):(pj c=0∧c≠34∧c≠92)∨c=34∨c=92∨c=8∨c=12∨c=10∨c=13∨c=9:=by
  unfold pj
  by_cases h1:c=34 <;> by_cases h2:c=92 <;> by_cases h3:c=8 <;> by_cases h4:c=12 <;> by_cases h5:c=10 <;> by_cases h6:c=13 <;> by_cases h7:c=9 <;> simp[h1,h2,h3,h4,h5,h6,h7]

theorem qc_hex {c:Nat} (h0:pj c=0) (h:c<32):qc c = [92,117,48,48,EM.getD (c / 16) 0,EM.getD (c % 16) 0]:=by unfold qc; rw[if_neg (by omega),if_pos h]
theorem PU {c:Nat} (h0:pj c=0) (h:¬c<32):qc c=enc c:=by unfold qc; rw[if_neg (by omega),if_neg h]

theorem step_qc {c:Nat} (hv:vr c) (t:aj):([34]:aj).isPrefixOf (qc c++t)=false∧IH (qc c++t)=some (c,t):=by
  rcases PT c with ⟨h0,GJ,PS⟩|rfl|rfl|rfl|rfl|rfl|rfl|rfl
  · by_cases Y9:c<32
    · rw[qc_hex h0 Y9]
      refine ⟨rfl,?_⟩
      have hb:=Ze ⟨c,Y9⟩
      simp only at hb
      show IF (48::48::EM.getD (c / 16) 0::EM.getD (c % 16) 0::t)=some (c,t)
      have hu:Ep (48::48::EM.getD (c / 16) 0::EM.getD (c % 16) 0::t)=some (c,t):=by
        unfold Ep
        rw[if_neg (by simp only[List.length_cons]; omega)]
        have e:List.take 4 (48::48::EM.getD (c / 16) 0::EM.getD (c % 16) 0::t) = [48,48,EM.getD (c / 16) 0,EM.getD (c % 16) 0]:=rfl
        rw[e,hb]
        rfl
      unfold IF
      rw[hu]
      simp only
      rw[if_pos (.inl (by omega))]
    · rw[PU h0 Y9]
      obtain ⟨b,u,e,g1,g2⟩:=We hv (by omega) GJ PS
      have e2:enc c++t=b::(u++t):=by rw[e]; rfl
      refine ⟨?_,?_⟩
      · rw[e2,MG]
        exact u8_ne (n:=34) (by omega) g1
      · unfold IH
        have:([92]:aj).isPrefixOf (enc c++t)=false:=by
          rw[e2,MG]
          exact u8_ne (n:=92) (by omega) g2
        rw[this]
        simp only[Bool.false_eq_true,if_false]
        unfold D6
        rw[if_neg (YI hv t),H4 hv t]
        simp only
        have hg:=Rd hv t
        unfold Ta at hg
        rw[H4 hv t]at hg
        simp only at hg
        rw[if_neg hg,if_neg Y9,List.drop_left]
  · exact ⟨rfl,rfl⟩
  · exact ⟨rfl,rfl⟩
  · exact ⟨rfl,rfl⟩
  · exact ⟨rfl,rfl⟩
  · exact ⟨rfl,rfl⟩
  · exact ⟨rfl,rfl⟩
  · exact ⟨rfl,rfl⟩

theorem uq_qc:∀(rs:List Nat),(∀c∈rs,vr c)→∀(n:Nat) (o more:aj),rs.length<n→uq n (IG rs++34::more) o=some (o++cT rs,more)
  | [],_,n,o,more,hn=>by
    obtain ⟨m,rfl⟩:∃m,n=m+1:=⟨n - 1,by simp at hn; omega⟩
    have:IG []++34::more=34::more:=rfl
    rw[this]
    simp[uq,List.isPrefixOf,cT]
  | c::rs,hr,n,o,more,hn=>by
    obtain ⟨m,rfl⟩:∃m,n=m+1:=⟨n - 1,by simp at hn; omega⟩
    have hv:=hr c (by simp)
    have e:IG (c::rs)++34::more=qc c++(IG rs++34::more):=by simp[IG]
    obtain ⟨h1,h2⟩:=step_qc hv (IG rs++34::more)
    rw[e]
    simp only[uq,h1,h2,Bool.false_eq_true,if_false]
    rw[uq_qc rs (fun x hx=>hr x (by simp[hx])) m (o++enc c) more (by simp at hn; omega)]
    simp[cT]

theorem qc_pos {c:Nat} (hv:vr c):1≤(qc c).length:=by
  unfold qc
  split
  · simp
  · split
    · simp
    · exact (Ay hv).1
theorem Uy:∀(rs:List Nat),(∀c∈rs,vr c)→rs.length≤(IG rs).length
  | [],_=>by simp[IG]
  | c::rs,h=>by
    have h1:=qc_pos (h c (by simp))
    have h2:=Uy rs (fun x hx=>h x (by simp[hx]))
    have:IG (c::rs)=qc c++IG rs:=by simp[IG]
    rw[this,List.length_append,List.length_cons]
    omega

theorem Zf (rs:List Nat) (hr:∀c∈rs,vr c) (more:aj):Zd (qt rs++more)=some (cT rs,more):=by
  have e:qt rs++more=34::(IG rs++34::more):=by unfold qt; simp
  have hq:=Uy rs hr
  rw[e]
  unfold Zd
  rw[MG]
  simp only[BEq.rfl,if_true,List.drop_succ_cons,List.drop_zero]
  have:=uq_qc rs hr ((34::(IG rs++34::more)).length+1) [] more (by simp only[List.length_cons,List.length_append]; omega)
  rw[this]
  rfl

theorem Ry {R:Type} (x:aj) (f:Bool→Option R):br x f=f (jt x):=rfl

theorem OC {R:Type} (s:aj) (hl:s.length≤10000000000):(∃rs:List Nat,(∀c∈rs,vr c)∧rs.length≤s.length∧s=cT rs∧jt s=true∧∀k:aj→Bool→Option R,bS s k=k (qt rs) true) ∨
    (jt s=false∧∀k:aj→Bool→Option R,bS s k=k [] false):=by
  cases h:jt s with
  | true =>
    obtain ⟨rs,hr,rfl⟩:=C8.1 h
    have:=Hl rs hr
    exact .inl ⟨rs,hr,this.1,rfl,rfl,fun k=>Za rs hr (by omega) k⟩
  | false=>exact .inr ⟨rfl,fun k=>Wd s h k⟩


end Go.Proofs.YtmlkkgfenfdndaaGreatDoor

/-
  Functions of the program as pure Lean functions, and the ties; printed by wip/tools/emit.py.
-/
set_option maxRecDepth 100000
namespace Go.Proofs.YtmlkkgfenfdndaaGreatDoor
open Go Go.ay

end Go.Proofs.YtmlkkgfenfdndaaGreatDoor

/-
  Functions of the program as pure Lean functions, and the ties; printed by wip/tools/emit.py.
-/
set_option maxRecDepth 100000
namespace Go.Proofs.YtmlkkgfenfdndaaGreatDoor
open Go Go.ay

end Go.Proofs.YtmlkkgfenfdndaaGreatDoor

/-
  Functions of the program as pure Lean functions, and the ties; printed by wip/tools/emit.py.
-/
set_option maxRecDepth 100000
namespace Go.Proofs.YtmlkkgfenfdndaaGreatDoor
open Go Go.ay

end Go.Proofs.YtmlkkgfenfdndaaGreatDoor

set_option maxRecDepth 100000
namespace Go.Proofs.YtmlkkgfenfdndaaGreatDoor
open Go Go.ay Go.Lib

def tail (low v n:Nat):Nat:=if v<low∨1114111<v∨(55296≤v∧v≤57343)then 0 else n

end Go.Proofs.YtmlkkgfenfdndaaGreatDoor

/-
  Functions of the program as pure Lean functions, and the ties; printed by wip/tools/emit.py.
-/
set_option maxRecDepth 100000
namespace Go.Proofs.YtmlkkgfenfdndaaGreatDoor
open Go Go.ay

end Go.Proofs.YtmlkkgfenfdndaaGreatDoor

set_option maxRecDepth 100000
namespace Go.Proofs.YtmlkkgfenfdndaaGreatDoor
open Go Go.ay Go.Lib

theorem eqI (n m:Nat):((n:Int)==(m:Int))=decide (n=m):=by
  by_cases h:n=m
  · subst h; simp
  · have:¬((n:Int)=(m:Int)):=by omega
    simp[h,this]

def qb (b:UInt8):aj :=
  if b.toNat=34∨b.toNat=92 then [92,b]else if b.toNat=8 then [92,98]else if b.toNat=9 then [92,116]else if b.toNat=10 then [92,110]else if b.toNat=12 then [92,102]else if b.toNat=13 then [92,114]
  else if b.toNat<32 then [92,117,48,48,EM.getD (b.toNat / 16) 0,EM.getD (b.toNat % 16) 0]else [b]

theorem qb_len (b:UInt8):(qb b).length≤6:=by unfold qb; (repeat' split) <;> simp

theorem A8 {b:UInt8} (h:128≤b.toNat):qb b = [b]:=by
  unfold qb
  rw[if_neg (by omega),if_neg (by omega),if_neg (by omega),if_neg (by omega),if_neg (by omega),if_neg (by omega),if_neg (by omega)]

theorem qb_enc {c:Nat} (hv:vr c):(enc c).flatMap qb=qc c:=by
  have kY:=Ot hv
  rcases C7 hv with ⟨h1,e⟩|⟨h0,h1,e⟩|⟨h0,h1,e⟩|⟨h0,e⟩
  · rw[e]
    simp only[List.flatMap_cons,List.flatMap_nil,List.append_nil]
    have hu:=gX c (by omega)
    unfold qb qc pj
    rw[hu]
    by_cases GJ:c=34
    · subst GJ; rfl
    by_cases PS:c=92
    · subst PS; rfl
    by_cases h8:c=8
    · subst h8; rfl
    by_cases h9:c=9
    · subst h9; rfl
    by_cases h10:c=10
    · subst h10; rfl
    by_cases h12:c=12
    · subst h12; rfl
    by_cases h13:c=13
    · subst h13; rfl
    simp only[GJ,PS,h8,h9,h10,h12,h13,or_self,if_false,ne_eq,not_true_eq_false]
    by_cases Y9:c<32
    · simp only[Y9,if_true]
    · simp only[Y9,if_false]
      rw[e]
  · have hq:qc c=enc c:=PU (by unfold pj; rw[if_neg (by omega),if_neg (by omega),if_neg (by omega),if_neg (by omega),if_neg (by omega),if_neg (by omega)]) (by omega)
    rw[hq,e]
    simp only[List.flatMap_cons,List.flatMap_nil,List.append_nil]
    rw[A8 (by rw[gX _ (by omega)]; omega),A8 (by rw[gX _ (by omega)]; omega)]; rfl
  · have hq:qc c=enc c:=PU (by unfold pj; rw[if_neg (by omega),if_neg (by omega),if_neg (by omega),if_neg (by omega),if_neg (by omega),if_neg (by omega)]) (by omega)
    rw[hq,e]
    simp only[List.flatMap_cons,List.flatMap_nil,List.append_nil]
    rw[A8 (by rw[gX _ (by omega)]; omega),A8 (by rw[gX _ (by omega)]; omega),A8 (by rw[gX _ (by omega)]; omega)]; rfl
  · have hq:qc c=enc c:=PU (by unfold pj; rw[if_neg (by omega),if_neg (by omega),if_neg (by omega),if_neg (by omega),if_neg (by omega),if_neg (by omega)]) (by omega)
    rw[hq,e]
    simp only[List.flatMap_cons,List.flatMap_nil,List.append_nil]
    rw[A8 (by rw[gX _ (by omega)]; omega),A8 (by rw[gX _ (by omega)]; omega),A8 (by rw[gX _ (by omega)]; omega),A8 (by rw[gX _ (by omega)]; omega)]; rfl

theorem Uz:∀(rs:List Nat),(∀c∈rs,vr c)→(cT rs).flatMap qb=IG rs
  | [],_=>rfl
  | c::rs,h=>by
    have e:cT (c::rs)=enc c++cT rs:=by simp[cT]
    have e2:IG (c::rs)=qc c++IG rs:=by simp[IG]
    rw[e,e2,List.flatMap_append,qb_enc (h c (by simp)),Uz rs (fun x hx=>h x (by simp[hx]))]




theorem dec_all (u:Nat):∀b∈decDigits u,48≤b.toNat∧b.toNat≤57:=by
  induction u using Nat.strongRecOn with
  | _ u ih =>
    intro b hb
    by_cases h:u<10
    · rw[decDigits,dif_pos h]at hb
      simp only[List.mem_cons,List.not_mem_nil,or_false]at hb
      subst hb
      rw[gX _ (by omega)]; omega
    · rw[decDigits,dif_neg h]at hb
      rcases List.mem_append.1 hb with hb|hb
      · exact ih (u / 10) (by omega) b hb
      · simp only[List.mem_cons,List.not_mem_nil,or_false]at hb
        subst hb
        rw[gX _ (by omega)]; omega
theorem OD (u:Nat) (hu:0<u):∃b t,decDigits u=b::t∧b.toNat≠48:=by
  induction u using Nat.strongRecOn with
  | _ u ih =>
    by_cases h:u<10
    · exact ⟨_, [],by rw[decDigits,dif_pos h],by rw[gX _ (by omega)]; omega⟩
    · obtain ⟨b,t,e,hb⟩:=ih (u / 10) (by omega) (by omega)
      exact ⟨b,t ++ [UInt8.ofNat (48+u % 10)],by rw[decDigits,dif_neg h,e]; rfl,hb⟩
theorem Zg (u:Nat):∃l,decDigits u=l ++ [UInt8.ofNat (48+u % 10)]:=by
  by_cases h:u<10
  · exact ⟨[],by rw[decDigits,dif_pos h,Nat.mod_eq_of_lt h]; rfl⟩
  · exact ⟨decDigits (u / 10),by rw[decDigits,dif_neg h]⟩

theorem Zh {m:Int} (h:Int.tmod m 10≠0):m.natAbs % 10≠0:=by
  intro h2
  apply h
  have e:m=(m / 10)*10:=by omega
  rw[e]
  exact Int.mul_tmod_left _ _


theorem K5 (c:UInt8):∀l:aj,Go.Lib.indexByte l c<0↔l.contains c=false
  | []=>by simp[Go.Lib.indexByte]
  | x::l=>by
    have ih:=K5 c l
    have hg:=Go.Lib.indexByte_ge l c
    unfold Go.Lib.indexByte
    rw[List.contains_cons]
    by_cases h:x=c
    · subst h; simp
    · have h2:(c==x)=false:=by rw[beq_eq_false_iff_ne]; exact fun e=>h e.symm
      rw[h2,Bool.false_or,←ih]
      split
      · rename_i h3; exact (h (beq_iff_eq.1 h3)).elim
      · split
        · rename_i h4
          have:=beq_iff_eq.1 h4
          omega
        · rename_i h4
          have:¬Go.Lib.indexByte l c = -1:=fun e=>h4 (beq_iff_eq.2 e)
          omega

def ql (Dn s:aj):Nat × aj:=match s with | []=>(0, [])|b::t=>if Dn.contains b then (b.toNat,t)else (0,b::t)

theorem A9 {R:Type} (Dn s:aj) (hs:s.length≤4000000000) (k:Int→aj→Option R):aR Dn s k=k ((ql Dn s).1:Int) (ql Dn s).2:=by
  have e:aR Dn s k=lk Dn s k:=rfl
  rw[e]
  unfold lk
  cases s with
  | nil=>rfl
  | cons b t =>
    simp only[List.length_cons]at hs
    have j7:((b::t:aj)==([]:aj))=false:=rfl
    have hg:((b::t:aj).getD 0 0)=b:=rfl
    have hd:((b::t:aj).drop 1).take (((b::t:aj).length:Int).toNat - 1)=t:=by
      rw[Int.toNat_natCast,List.drop_succ_cons,List.drop_zero,List.length_cons,Nat.add_sub_cancel,List.take_length]
    have hi:yL Dn ((b.toNat:Nat):Int)=Go.Lib.indexByte Dn b:=by
      unfold yL
      rw[Int.toNat_natCast]
      simp
    have hl:(b::t:aj).length=t.length+1:=rfl
    rw[j7,cond_false,hg,hd,hi,hl,aT (bq (by omega))]
    unfold ql
    cases hc:Dn.contains b with
    | false =>
      rw[bq ((K5 b Dn).2 hc),cond_true]
      simp only[hc,Bool.false_eq_true,if_false]
      rfl
    | true =>
      have:¬Go.Lib.indexByte Dn b<0:=fun h=>by rw[(K5 b Dn).1 h]at hc; cases hc
      rw[cY this,cond_false,aT (bq (by omega)),aT (by rw[bq (show (0:Int)≤((t.length+1:Nat):Int) by omega),bq (by omega)]; rfl),aT (bq (by omega))]
      simp only[hc,if_true]

def Zi:aj := [48,49,50,51,52,53,54,55,56,57]
def od (b:UInt8):Prop:=48≤b.toNat∧b.toNat≤57
theorem Zj:∀n:Fin 256,Zi.contains (UInt8.ofNat n.val)=decide (48≤n.val∧n.val≤57):=by decide +kernel
theorem PV (b:UInt8):Zi.contains b=decide (48≤b.toNat∧b.toNat≤57):=by
  have:=Zj ⟨b.toNat,UInt8.toNat_lt b⟩
  simpa using this

theorem FV (p:UInt8→Bool):∀(a r:aj),(∀x∈a,p x=true)→(a++r).dropWhile p=r.dropWhile p
  | [],r,_=>rfl
  | x::a,r,h=>by
    rw[List.cons_append,List.dropWhile_cons,h x (by simp),if_pos rfl]
    exact FV p a r fun y hy=>h y (by simp[hy])
theorem Hm (p:UInt8→Bool) (r:aj) (h:∀b t,r=b::t→p b=false):r.dropWhile p=r:=by
  cases r with
  | nil=>rfl
  | cons b t=>rw[List.dropWhile_cons,h b t rfl]; rfl

theorem JK {R:Type} (a r:aj) (ha:∀x∈a,od x) (hr:∀b t,r=b::t→¬od b) (hl:(a++r).length≤4000000000) (k:aj→aj→Option R):aN (a++r) k=k a r:=by
  have e:aN (a++r) k=j0 (a++r) k:=rfl
  rw[e]
  unfold j0
  have ht:bE (a++r) ([48,49,50,51,52,53,54,55,56,57]:aj)=r:=by
    unfold bE
    have h1:=FV (fun x=>Zi.contains x) a r (fun x hx=>by rw[PV]; exact bq (ha x hx))
    have h2:=Hm (fun x=>Zi.contains x) r (fun b t hb=>by rw[PV]; exact cY (hr b t hb))
    exact h1.trans h2
  rw[ht]
  have hlen:(a++r).length=a.length+r.length:=List.length_append
  have hw:IntKind.i64.wrap (((a++r).length:Int) - (r.length:Int))=(a.length:Int):=by rw[hlen,dD (by omega) (by omega)]; omega
  rw[hw,aT (by rfl),aT (by rw[bq (by omega),bq (by omega)]; rfl),aT (bq (by omega)),List.drop_zero,Int.toNat_natCast,Nat.sub_zero,List.take_left]

theorem Zk {R:Type} (neg:Bool) (I F X:aj) (pt:Bool) (ev:Int) (hI:∀x∈I,od x) (hI0:I ≠ []) (hI1:1<I.length→(I.getD 0 0).toNat≠48) (hF:∀x∈F,od x) (hF0:pt=true→F ≠ []) (hF1:pt=false→F = [])
    (hX:(X = []∧ev=0)∨∃b Y,X=b::Y∧(b=101∨b=69)∧∀f:Int→Bool→aj→Option R,bm Y f=f ev true []) (hev : -1000000≤ev∧ev≤1000000)
    (hlen:((if neg then [45]else [])++(I++((if pt then 46::F else [])++X))).length≤400)
    (hsh:(cU (bE (I++F) [48]) [48]).length≤18) (k:iO→Bool→Option R) :
    dz ((if neg then [45]else [])++(I++((if pt then 46::F else [])++X))) k =
      bL (if neg then IntKind.i64.wrap (0 - eA (48::cU (bE (I++F) [48]) [48]))else eA (48::cU (bE (I++F) [48]) [48])) (-(F.length:Int)+ev+(((bE (I++F) [48]).length:Int) - ((cU (bE (I++F) [48]) [48]).length:Int))) k:=by
  generalize hS:(if neg then [45]else [])++(I++((if pt then 46::F else [])++X))=s at *
  have e:dz s k=oI bL aR aN bm s k:=rfl
  rw[e]
  unfold oI
  -- the pieces
  obtain ⟨i0,It,hIe⟩:∃b t,I=b::t:=by cases I with|nil=>exact (hI0 rfl).elim|cons b t=>exact ⟨b,t,rfl⟩
  have hi0:=hI i0 (by rw[hIe]; simp)
  have hXh:∀b t,X=b::t→¬od b∧b.toNat≠46:=by
    intro b t hb
    rcases hX with ⟨rfl,_⟩|⟨c,Y,rfl,hc,_⟩
    · cases hb
    · cases hb
      rcases hc with rfl|rfl <;> exact ⟨by unfold od; decide,by decide⟩
  have hs1:ql [45] s=(if neg then 45 else 0,I++((if pt then 46::F else [])++X)):=by
    rw[←hS]
    cases neg with
    | true=>rfl
    | false =>
      rw[hIe]
      have:([45]:aj).contains i0=false:=by
        have:i0≠45:=by rintro rfl; exact absurd hi0.1 (by decide)
        simp[this]
      simp only[Bool.false_eq_true,if_false,List.nil_append,List.cons_append,ql,this]
  have hsl:s.length≤400:=hlen
  have DC:s.length=(if neg then 1 else 0)+(I.length+((if pt then F.length+1 else 0)+X.length)):=by
    rw[←hS]
    cases neg <;> cases pt <;> simp <;> omega
  have hFl:F.length≤400:=by
    cases pt with
    | true=>simp at DC; omega
    | false=>rw[hF1 rfl]; simp
  have hIl:I.length≤400:=by omega
  have hXl:X.length≤400:=by omega
  rw[A9 _ _ (by omega),hs1]
  simp only
  have hPh:∀b t,(if pt then 46::F else [])++X=b::t→¬od b:=by
    intro b t hb
    cases pt with
    | true=>simp at hb; rw[←hb.1]; unfold od; decide
    | false=>exact (hXh b t (by simpa using hb)).1
  have P8:(I++((if pt then 46::F else [])++X)).length≤4000000000:=by
    have:(I++((if pt then 46::F else [])++X)).length=I.length+((if pt then F.length+1 else 0)+X.length):=by cases pt <;> simp <;> omega
    omega
  rw[JK I _ hI hPh P8]
  have j7:(I==([]:aj))=false:=by rw[beq_eq_false_iff_ne]; exact hI0
  rw[cY (show ¬(s.length:Int)>400 by omega),cond_false,j7,cond_false]
  have q48:(((I.getD 0 0).toNat:Int)==48)=decide ((I.getD 0 0).toNat=48):=eqI _ 48
  -- the rest, behind the first test
  have drop1:∀x:Option R,(bif (decide ((I.length:Int)>1))then (cX (decide ((0:Int)<I.length)) (bif (((I.getD 0 0).toNat:Int)==48)then (k ⟨0,0⟩ false)else x))else x)=x:=by
    intro x
    by_cases h:1<I.length
    · rw[bq (show (I.length:Int)>1 by omega),cond_true,aT (bq (by omega)),q48,cY (hI1 h),cond_false]
    · rw[cY (show ¬(I.length:Int)>1 by omega),cond_false]
  rw[drop1]
  generalize hA:I++F=all at *
  have ze:all.length≤800:=by rw[←hA,List.length_append]; omega
  have htl:(bE all [48]).length≤all.length:=yM _ _
  have lone:([48]:aj).length=1:=rfl
  have hc:(([48]:aj)++(cU (bE all ([48]:aj)) ([48]:aj)))=48::cU (bE all [48]) [48]:=rfl
  have hbe:((([]:aj)==([]:aj)))=true:=rfl
  have UA:decide ((48::cU (bE all [48]) [48]:aj).length≤281474976710656)=true:=bq (by simp only[List.length_cons]; omega)
  have w0:IntKind.i64.wrap (((bE all [48]).length:Int) - ((cU (bE all [48]) [48]).length:Int))=((bE all [48]).length:Int) - ((cU (bE all [48]) [48]).length:Int):=dD (by omega) (by omega)
  have q1:decide (1+(cU (bE all [48]) [48]).length≤9223372036854775807)=true:=bq (by omega)
  have q2:decide (((cU (bE all [48]) [48]).length:Int)>18)=false:=cY (by omega)
  have q3:(tI ([48]:aj)&&decide (([48]:aj).length<4294967281))=true:=rfl
  have qn:(((if neg then 45 else 0:Nat):Int) != 0)=neg:=by cases neg <;> rfl
  have sX:ql [101,69] X=match X with | []=>(0, [])|b::Y=>(b.toNat,Y):=by
    rcases hX with ⟨rfl,_⟩|⟨b,Y,rfl,hb,_⟩
    · rfl
    · rcases hb with rfl|rfl <;> rfl
  cases pt with
  | false =>
    have hFe:=hF1 rfl
    subst hFe
    rw[List.append_nil]at hA
    subst hA
    have s46:ql [46] X=(0,X):=by
      rcases hX with ⟨rfl,_⟩|⟨b,Y,rfl,hb,_⟩
      · rfl
      · rcases hb with rfl|rfl <;> rfl
    simp only[Bool.false_eq_true,if_false,List.nil_append]
    rw[A9 _ _ (by omega),s46]
    have z0:(((0:Nat):Int) != 0)=false:=rfl
    simp only[z0,cond_false]
    rw[A9 _ _ (by omega),sX]
    rcases hX with ⟨rfl,rfl⟩|⟨b,Y,rfl,hb,hE⟩
    · simp only[z0,cond_false,q3,aT rfl,hbe,Bool.not_true,q2,q1,hc,UA,Bool.cond_self,w0,qn]
      rw[dD (n:=0+(((bE I [48]).length:Int) - ((cU (bE I [48]) [48]).length:Int))) (by omega) (by omega)]
      have e0 : -((([]:aj).length:Nat):Int)+0=0:=rfl
      rw[e0]
      cases neg <;> rfl
    · have zb:((b.toNat:Int) != 0)=true:=by rcases hb with rfl|rfl <;> rfl
      simp only[zb,cond_true,hE,Bool.not_true,cond_false,q3,aT rfl,hbe,q2,q1,hc,UA,Bool.cond_self,w0,qn]
      rw[dD (n:=0+ev) (by omega) (by omega),dD (n:=0+ev+(((bE I [48]).length:Int) - ((cU (bE I [48]) [48]).length:Int))) (by omega) (by omega)]
      have e0 : -((([]:aj).length:Nat):Int)+ev=0+ev:=rfl
      rw[e0]
      cases neg <;> rfl
  | true =>
    have hFe:=hF0 rfl
    simp only[if_true,List.cons_append,List.nil_append]
    have s46:ql [46] (46::(F++X))=(46,F++X):=rfl
    have lFX:(F++X).length=F.length+X.length:=List.length_append
    rw[A9 _ _ (by simp only[List.length_cons]; omega),s46]
    have z46:(((46:Nat):Int) != 0)=true:=rfl
    have z0:(((0:Nat):Int) != 0)=false:=rfl
    simp only[z46,cond_true]
    rw[JK F X hF (fun b t hb=>(hXh b t hb).1) (by omega)]
    have hFn:(F==([]:aj))=false:=by rw[beq_eq_false_iff_ne]; exact hFe
    rw[hFn,cond_false,aT (bq (by omega)),hA,dD (n:=0 - (F.length:Int)) (by omega) (by omega)]
    rw[A9 _ _ (by omega),sX]
    rcases hX with ⟨rfl,rfl⟩|⟨b,Y,rfl,hb,hE⟩
    · simp only[z0,cond_false,q3,aT rfl,hbe,Bool.not_true,q2,q1,hc,UA,Bool.cond_self,w0,qn]
      rw[dD (n:=0 - (F.length:Int)+(((bE all [48]).length:Int) - ((cU (bE all [48]) [48]).length:Int))) (by omega) (by omega)]
      have e0 : -(F.length:Int)+0=0 - (F.length:Int):=by omega
      rw[e0]
      cases neg <;> rfl
    · have zb:((b.toNat:Int) != 0)=true:=by rcases hb with rfl|rfl <;> rfl
      simp only[zb,cond_true,hE,Bool.not_true,cond_false,q3,aT rfl,hbe,q2,q1,hc,UA,Bool.cond_self,w0,qn]
      rw[dD (n:=0 - (F.length:Int)+ev) (by omega) (by omega),dD (n:=0 - (F.length:Int)+ev+(((bE all [48]).length:Int) - ((cU (bE all [48]) [48]).length:Int))) (by omega) (by omega)]
      have e0 : -(F.length:Int)+ev=0 - (F.length:Int)+ev:=by omega
      rw[e0]
      cases neg <;> rfl

theorem Rz:∀(l r:aj) (acc v:Nat),parseUint10 acc l = .ok v→parseUint10 acc (l++r)=parseUint10 v r
  | [],r,acc,v,h=>by
    simp only[parseUint10]at h
    injection h with h
    subst h
    rfl
  | c::l,r,acc,v,h=>by
    simp only[parseUint10,List.cons_append]at h ⊢
    split at h
    · rename_i h1
      rw[if_pos h1]
      split at h
      · cases h
      · rename_i h2
        rw[if_neg h2]
        split at h
        · cases h
        · rename_i h3
          rw[if_neg h3]
          exact Rz l r _ v h
    · cases h

theorem Zl (u:Nat) (hu:u<1000000000000000000):parseUint10 0 (decDigits u) = .ok u:=by
  induction u using Nat.strongRecOn with
  | _ u ih =>
    by_cases h:u<10
    · rw[decDigits,dif_pos h]
      simp only[parseUint10,gX (48+u) (by omega)]
      rw[if_pos (by omega),if_neg (by omega),if_neg (by omega)]
      congr 1
      omega
    · rw[decDigits,dif_neg h,Rz _ _ _ _ (ih (u / 10) (by omega) (by omega))]
      simp only[parseUint10,gX (48+u % 10) (by omega)]
      rw[if_pos (by omega),if_neg (by omega),if_neg (by omega)]
      congr 1
      omega

theorem Zm (u:Nat) (hu:u<1000000000000000000):eA (48::decDigits u)=(u:Int):=by
  have h1:parseMag (48::decDigits u) = .ok u:=by
    unfold parseMag
    rw[if_neg (by simp)]
    have:=Zl u hu
    simp only[parseUint10]
    exact this
  have h2:atoiAll (48::decDigits u) = .ok (u:Int):=by
    unfold atoiAll
    simp only
    have e:(if (48:UInt8).toNat=43∨(48:UInt8).toNat=45 then decDigits u else 48::decDigits u)=48::decDigits u:=if_neg (by decide)
    rw[e,h1]
    simp only
    rw[if_neg (by omega),if_neg (fun h=>absurd h.1 (by decide)),if_neg (by decide)]
  unfold eA
  rw[h2]

theorem trimL_z (n:Nat) (r:aj) (hr:∀b t,r=b::t→b≠48):bE (jU n++r) [48]=r:=by
  unfold bE
  rw[FV _ _ _ (fun x hx=>by have:=List.eq_of_mem_replicate hx; subst this; rfl)]
  exact Hm _ _ fun b t hb=>by simp[hr b t hb]

theorem trimR_z (l:aj) (n:Nat) (b:UInt8) (hb:b≠48):cU (l ++ [b]++jU n) [48]=l ++ [b]:=by
  unfold cU
  rw[List.reverse_append,List.reverse_append]
  have e:(jU n).reverse=jU n:=List.reverse_replicate
  rw[e,FV _ _ _ (fun x hx=>by have:=List.eq_of_mem_replicate hx; subst this; rfl)]
  have:List.dropWhile (fun x=>([48]:aj).contains x) (([b]:aj).reverse++l.reverse) = [b]++l.reverse:=Hm _ _ fun c t hc=>by
    have:b=c:=by
      have:=congrArg List.head? hc
      simpa using this
    subst this
    simp[hb]
  rw[this,List.reverse_append,List.reverse_reverse]
  rfl

theorem trims {u:Nat} (hu:u % 10≠0) (a b:Nat):bE (jU a++(decDigits u++jU b)) [48]=decDigits u++jU b∧cU (decDigits u++jU b) [48]=decDigits u:=by
  obtain ⟨x,t,e,hx⟩:=OD u (by omega)
  obtain ⟨l,hl⟩:=Zg u
  constructor
  · apply trimL_z
    intro c t' hc
    rw[e]at hc
    have:x=c:=by
      have:=congrArg List.head? hc
      simpa using this
    subst this
    rintro rfl
    exact hx rfl
  · rw[hl]
    apply trimR_z
    intro h
    have:=congrArg UInt8.toNat h
    rw[gX _ (by omega)]at this
    have e48:(48:UInt8).toNat=48:=rfl
    omega

theorem JL (d:iO) (hd:Fm d) (h0:d.aB≠0):∃(I F:aj) (pt:Bool) (a b:Nat),NL d=(if decide (d.aB<0)then [45]else [])++(I++(if pt then 46::F else [])) ∧
    I++F=jU a++(decDigits d.aB.natAbs++jU b)∧I ≠ []∧(1<I.length→(I.getD 0 0).toNat≠48)∧(pt=true→F ≠ [])∧(pt=false→F = [])∧(F.length:Int)=(b:Int) - d.exp∧I.length+F.length≤40∧(∀x∈I,od x)∧(∀x∈F,od x):=by
  have bd:=hd.bounds
  have ze:=dec_all d.aB.natAbs
  have hlen:(decDigits d.aB.natAbs).length≤16:=by rw[decDigits_length]; exact My (by omega)
  have HC:1≤(decDigits d.aB.natAbs).length:=by rw[decDigits_length]; exact nDigits_pos _
  obtain ⟨x0,t0,Tr,hx0⟩:=OD d.aB.natAbs (by omega)
  have hsg:(if d.aB<0 then ([45]:aj)else [])=if decide (d.aB<0)then [45]else []:=by by_cases h:d.aB<0 <;> simp[h]
  unfold NL
  rw[hsg]
  generalize decDigits d.aB.natAbs=L at *
  by_cases he:0≤d.exp
  · refine ⟨L++jU d.exp.toNat, [],false,0,d.exp.toNat,?_,by simp[jU],?_,fun _ => ?_,by simp,by simp,by simp; omega,?_,?_,by simp⟩
    · unfold body; rw[if_pos he]; simp
    · rw[Tr]; simp
    · rw[Tr]; exact hx0
    · rw[List.length_append,qj,List.length_nil]; omega
    · intro x hx
      rcases List.mem_append.1 hx with hx|hx
      · exact ze x hx
      · have:=List.eq_of_mem_replicate hx
        subst this; unfold od; decide
  · have hz:∃z:Nat,(max 0 (1 - d.exp - (L.length:Int))).toNat=z:=⟨_,rfl⟩
    obtain ⟨z,hz⟩:=hz
    have tl:(jU z++L).length=z+L.length:=by rw[List.length_append,qj]
    have P9:(((jU z++L).length:Int)+d.exp).toNat=(jU z++L).length - d.exp.natAbs:=by omega
    have h1:d.exp.natAbs+1≤(jU z++L).length:=by omega
    have tdig:∀x∈jU z++L,od x:=by
      intro x hx
      rcases List.mem_append.1 hx with hx|hx
      · have:=List.eq_of_mem_replicate hx
        subst this; unfold od; decide
      · exact ze x hx
    have tfirst:z=0→((jU z++L).getD 0 0).toNat≠48:=by
      rintro rfl
      rw[Tr]
      exact hx0
    refine ⟨(jU z++L).take ((jU z++L).length - d.exp.natAbs),(jU z++L).drop ((jU z++L).length - d.exp.natAbs),true,z,0,?_,?_,?_,?_,fun _ => ?_,(fun h=>by cases h),?_,?_,?_,?_⟩
    · unfold body
      rw[if_neg he]
      simp only[hz,P9,if_true]
      simp
    · rw[List.take_append_drop]; simp[jU]
    · intro e
      have:=congrArg List.length e
      rw[List.length_take,List.length_nil]at this
      omega
    · intro hI
      rw[List.length_take]at hI
      have e:((jU z++L).take ((jU z++L).length - d.exp.natAbs)).getD 0 0=(jU z++L).getD 0 0:=by
        have:=(Re (s:=(jU z++L).take ((jU z++L).length - d.exp.natAbs)) (t:=(jU z++L).drop ((jU z++L).length - d.exp.natAbs)) (i:=0) (by rw[List.length_take]; omega)).symm
        rw[List.take_append_drop]at this
        exact this
      rw[e]
      exact tfirst (by omega)
    · intro e
      have:=congrArg List.length e
      rw[List.length_drop,List.length_nil]at this
      omega
    · rw[List.length_drop]; omega
    · rw[List.length_take,List.length_drop]; omega
    · intro x hx; exact tdig x (List.mem_of_mem_take hx)
    · intro x hx; exact tdig x (List.mem_of_mem_drop hx)

theorem Ts {R:Type} (k:iO→Bool→Option R):dz [48] k=k ⟨0,0⟩ true:=by kernel_rfl
theorem MH:NL ⟨0,0⟩ = [48]:=by
  show []++body (decDigits 0) 0 = [48]
  rw[decDigits_one (by omega)]
  rfl

theorem Wf {R:Type} {d:iO} (hd:Fm d) (h0:d.aB≠0) (X:aj) (ev:Int) (hX:(X = []∧ev=0)∨∃b Y,X=b::Y∧(b=101∨b=69)∧∀f:Int→Bool→aj→Option R,bm Y f=f ev true [])
    (hev : -1000000≤ev∧ev≤1000000) (hXl:X.length≤100) (k:iO→Bool→Option R):dz (NL d++X) k=bL d.aB (d.exp+ev) k:=by
  have bd:=hd.bounds
  obtain ⟨I,F,pt,a,b,e1,e2,i0,i1,f0,f1,fl,il,iD,fD⟩:=JL d hd h0
  obtain ⟨t1,t2⟩:=trims (u:=d.aB.natAbs) (Zh (hd.nz h0)) a b
  have hlen:(decDigits d.aB.natAbs).length≤16:=by rw[decDigits_length]; exact My (by omega)
  have key:=Zk (R:=R) (decide (d.aB<0)) I F X pt ev iD i0 i1 fD f0 f1 hX hev (by
    cases Xd:decide (d.aB<0) <;> cases pt <;> simp <;> omega) (by rw[e2,t1,t2]; omega) k
  have e3:NL d++X=(if decide (d.aB<0)then [45]else [])++(I++((if pt then 46::F else [])++X)):=by rw[e1]; simp only[List.append_assoc]
  rw[e3,key,e2,t1,t2,Zm _ (by omega)]
  have e4:(if decide (d.aB<0)=true then IntKind.i64.wrap (0 - (d.aB.natAbs:Int))else (d.aB.natAbs:Int))=d.aB:=by
    by_cases h:d.aB<0
    · rw[if_pos (by rw[bq h]),dD (by omega) (by omega)]; omega
    · rw[if_neg (by rw[cY h]; simp)]; omega
  have e5 : -(F.length:Int)+ev+(((decDigits d.aB.natAbs++jU b).length:Int) - ((decDigits d.aB.natAbs).length:Int))=d.exp+ev:=by
    rw[List.length_append,qj]
    omega
  rw[e4,e5]

theorem Wg {R:Type} {d:iO} (hd:Fm d) (h0:d.aB≠0) (k:iO→Bool→Option R):bL d.aB d.exp k=k d true:=by
  have bd:=hd.bounds
  obtain ⟨r,hr,hm⟩:=YV (R:=R) d.aB d.exp (by unfold DR; omega) (by omega) (by omega)
  have e5:d.aB=d.aB*10 ^ 0:=by simp
  rw[e5]at hr
  rw[hm,V4 hd h0 (j:=0) (x:=d.exp) (by omega) hr]



abbrev isD (b:UInt8):Bool:=Zi.contains b
theorem Zn (b:UInt8):isD b=decide (48≤b.toNat∧b.toNat≤57):=PV b
abbrev takeD (s:aj):aj:=s.takeWhile isD
abbrev Fy (s:aj):aj:=s.dropWhile isD

theorem II (s:aj):∀x∈takeD s,od x:=fun x hx=>by
  have h:=List.all_takeWhile (l:=s) (p:=isD)
  have:=List.all_eq_true.1 h x hx
  rw[Zn]at this
  exact of_decide_eq_true (p:=48≤x.toNat∧x.toNat≤57) this
theorem Zo (s:aj):∀b t,Fy s=b::t→¬od b:=fun b t h hb=>by
  have h2:isD b=false:=by
    have:=List.head?_dropWhile_not isD s
    have e:s.dropWhile isD=b::t:=h
    rw[e]at this
    simpa using this
  rw[Zn,bq (p:=48≤b.toNat∧b.toNat≤57) hb]at h2
  cases h2
theorem PW (s:aj):(takeD s).length≤s.length:=by
  have:=congrArg List.length (List.takeWhile_append_dropWhile (p:=isD) (l:=s))
  rw[List.length_append]at this
  unfold takeD
  omega
theorem RA (s:aj):(Fy s).length≤s.length:=yM _ _
theorem Hn {R:Type} (s:aj) (hl:s.length≤4000000000) (k:aj→aj→Option R):aN s k=k (takeD s) (Fy s):=by
  have e:takeD s++Fy s=s:=List.takeWhile_append_dropWhile
  have h:=JK (R:=R) (takeD s) (Fy s) (II s) (Zo s) (by rw[e]; exact hl) k
  rw[e]at h
  exact h
theorem IJ (g s:aj):(ql g s).2.length≤s.length:=by
  unfold ql
  cases s with
  | nil=>simp
  | cons b t=>simp only; split <;> simp

def rR:aj→Nat→Nat
  | [],v=>v
  | b::s,v=>rR s (10*v+(b.toNat - 48))
theorem RB:∀(a b:aj) (v:Nat),rR (a++b) v=rR b (rR a v)
  | [],_,_=>rfl
  | x::a,b,v=>RB a b _
theorem PX:∀(s:aj) (v:Nat),v*10 ^ s.length≤rR s v
  | [],v=>by simp[rR]
  | b::s,v=>by
    have:=PX s (10*v+(b.toNat - 48))
    have h2:10*v*10 ^ s.length≤(10*v+(b.toNat - 48))*10 ^ s.length:=Nat.mul_le_mul_right _ (by omega)
    have e:v*10 ^ (b::s).length=10*v*10 ^ s.length:=by rw[List.length_cons,Nat.pow_succ,Nat.mul_comm 10,Nat.mul_assoc,Nat.mul_comm 10]
    simp only[rR]
    omega
theorem Wh (s:aj) (v:Nat):v≤rR s v:=Nat.le_trans (Nat.le_mul_of_pos_right _ (Nat.pos_of_ne_zero (by simp))) (PX s v)
theorem UB:∀(s:aj) (v:Nat),(∀x∈s,od x)→rR s v<(v+1)*10 ^ s.length
  | [],v,_=>by simp[rR]
  | b::s,v,h=>by
    have hb:=h b (by simp)
    unfold od at hb
    have:=UB s (10*v+(b.toNat - 48)) fun x hx=>h x (by simp[hx])
    have h2:(10*v+(b.toNat - 48)+1)*10 ^ s.length≤((v+1)*10)*10 ^ s.length:=Nat.mul_le_mul_right _ (by omega)
    have e:(v+1)*10 ^ (b::s).length=((v+1)*10)*10 ^ s.length:=by rw[List.length_cons,Nat.pow_succ,Nat.mul_assoc,Nat.mul_comm 10]
    simp only[rR]
    omega

theorem RC:∀(D:aj) (acc:Nat),(∀x∈D,od x) →
    (rR D acc<18446744073709551616→parseUint10 acc D = .ok (rR D acc))∧(acc<18446744073709551616→18446744073709551616≤rR D acc→parseUint10 acc D = .range)
  | [],acc,_=>⟨fun _=>rfl,fun h1 h2=>by simp only[rR]at h2; omega⟩
  | b::D,acc,h=>by
    have hb:=h b (by simp)
    unfold od at hb
    obtain ⟨i1,i2⟩:=RC D (10*acc+(b.toNat - 48)) fun x hx=>h x (by simp[hx])
    have hs:=Wh D (10*acc+(b.toNat - 48))
    have e:acc*10+(b.toNat - 48)=10*acc+(b.toNat - 48):=by omega
    simp only[rR,parseUint10]
    rw[if_pos hb,e]
    refine ⟨fun h1 => ?_,fun h1 h2 => ?_⟩
    · rw[if_neg (by omega),if_neg (by omega)]
      exact i1 h1
    · by_cases g1:1844674407370955162≤acc
      · rw[if_pos g1]
      · rw[if_neg g1]
        by_cases g2:18446744073709551616≤10*acc+(b.toNat - 48)
        · rw[if_pos g2]
        · rw[if_neg g2]
          exact i2 (by omega) h2

theorem RD (D:aj) (hD:∀x∈D,od x) (h0:D ≠ []) :
    (rR D 0<9223372036854775808→atoiAll D = .ok (rR D 0:Int))∧(9223372036854775808≤rR D 0→atoiAll D = .range):=by
  obtain ⟨i1,i2⟩:=RC D 0 hD
  cases D with
  | nil=>exact (h0 rfl).elim
  | cons b D =>
    have hb:=hD b (by simp)
    unfold od at hb
    have e:(if b.toNat=43∨b.toNat=45 then D else b::D)=b::D:=if_neg (by omega)
    have m:parseMag (b::D)=parseUint10 0 (b::D):=by unfold parseMag; rw[if_neg (by simp)]
    unfold atoiAll
    simp only
    rw[e,m]
    refine ⟨fun h => ?_,fun h => ?_⟩
    · rw[i1 (by omega)]
      simp only
      rw[if_neg (by omega),if_neg (fun h2=>absurd h2.1 (by omega)),if_neg (by omega)]
    · by_cases h2:rR (b::D) 0<18446744073709551616
      · rw[i1 h2]
        simp only
        rw[if_pos ⟨by omega,h⟩]
      · rw[i2 (by omega) (by omega)]

def MI (X:aj):Int × Bool × aj :=
  let q:=ql [43,45] X
  let v:Int:=min (rR (takeD q.2) 0:Int) 1000000
  (if q.1=45 then -v else v, !(takeD q.2 == []),Fy q.2)

theorem exp_any {R:Type} (X:aj) (hl:X.length≤4000000000) (k:Int→Bool→aj→Option R):bm X k=k (MI X).1 (MI X).2.1 (MI X).2.2:=by
  have e:bm X k=jf aR aN X k:=rfl
  rw[e]
  unfold jf
  have h1:=IJ [43,45] X
  rw[A9 _ _ hl]
  unfold MI
  simp only
  generalize ql [43,45] X=q at *
  rw[Hn _ (by omega)]
  have h2:=PW q.2
  have hD:=II q.2
  generalize takeD q.2=D at *
  generalize Fy q.2=r at *
  have q45:((q.1:Int)==45)=decide (q.1=45):=eqI _ 45
  rw[aT (bq (by omega)),q45]
  by_cases h0:D = []
  · subst h0
    have a1:sE []=false:=rfl
    have a2:eA []=0:=rfl
    rw[a1,a2]
    simp only[cond_false,rR]
    by_cases hq:q.1=45
    · rw[bq hq,if_pos hq]; rfl
    · rw[cY hq,if_neg hq]; rfl
  · have j7:(D==([]:aj))=false:=by rw[beq_eq_false_iff_ne]; exact h0
    obtain ⟨i1,i2⟩:=RD D hD h0
    rw[j7]
    simp only[Bool.not_false,cond_true]
    by_cases hv:rR D 0<9223372036854775808
    · have a1:sE D=true:=by unfold sE; rw[i1 hv]
      have a2:eA D=(rR D 0:Int):=by unfold eA; rw[i1 hv]
      rw[a1,a2,cond_true]
      by_cases hb:(rR D 0:Int)>1000000
      · rw[bq hb,cond_true,Int.min_eq_right (by omega)]
        by_cases hq:q.1=45
        · rw[bq hq,if_pos hq]; rfl
        · rw[cY hq,if_neg hq]; rfl
      · rw[cY hb,cond_false,Int.min_eq_left (by omega),dD (by omega) (by omega)]
        by_cases hq:q.1=45
        · rw[bq hq,if_pos hq,cond_true]; congr 1; omega
        · rw[cY hq,if_neg hq,cond_false]
    · have a1:sE D=false:=by unfold sE; rw[i2 (by omega)]
      rw[a1,cond_false,Int.min_eq_right (by omega)]
      by_cases hq:q.1=45
      · rw[bq hq,if_pos hq]; rfl
      · rw[cY hq,if_neg hq]; rfl

theorem Tt (a:aj):∀b t,bE a [48]=b::t→b≠48:=fun b t h hb=>by
  have h2:=List.head?_dropWhile_not (([48]:aj).contains ·) a
  have e:a.dropWhile (([48]:aj).contains ·)=b::t:=h
  rw[e]at h2
  subst hb
  exact absurd (show (([48]:aj).contains 48)=false from h2) (by decide)
theorem Wi (a:aj):∀x∈bE a [48],x∈a:=fun x hx=>(List.dropWhile_sublist _).subset hx
theorem RE (a:aj):cU a [48] = []∨∃l b,cU a [48]=l ++ [b]∧b≠48:=by
  unfold cU
  have h2:=List.head?_dropWhile_not (([48]:aj).contains ·) a.reverse
  cases h:a.reverse.dropWhile (([48]:aj).contains ·)with
  | nil=>exact .inl rfl
  | cons b t =>
    rw[h]at h2
    refine .inr ⟨t.reverse,b,by simp,fun hb => ?_⟩
    subst hb
    exact absurd (show (([48]:aj).contains 48)=false from h2) (by decide)
theorem OE (a:aj):∃n,a=cU a [48]++jU n:=by
  have h:=List.takeWhile_append_dropWhile (p:=(([48]:aj).contains ·)) (l:=a.reverse)
  have h2:=congrArg List.reverse h
  rw[List.reverse_append,List.reverse_reverse]at h2
  refine ⟨(a.reverse.takeWhile (([48]:aj).contains ·)).length,?_⟩
  have hz:(a.reverse.takeWhile (([48]:aj).contains ·)).reverse=jU (a.reverse.takeWhile (([48]:aj).contains ·)).length:=by
    unfold jU
    rw[List.eq_replicate_iff]
    refine ⟨List.length_reverse,fun x hx => ?_⟩
    have h3:=List.all_takeWhile (l:=a.reverse) (p:=(([48]:aj).contains ·))
    have:=List.all_eq_true.1 h3 x (List.mem_reverse.1 hx)
    simpa using this
  rw[←hz]
  exact h2.symm

def Zp (neg:Bool) (all:aj) (x:Int):iO × Bool :=
  if cU (bE all [48]) [48] = []then (⟨0,0⟩,true)
  else V3 (if neg then -(rR (cU (bE all [48]) [48]) 0:Int)else (rR (cU (bE all [48]) [48]) 0:Int)) (x+(((bE all [48]).length:Int) - ((cU (bE all [48]) [48]).length:Int)))

theorem Zq {R:Type} (m x:Int) (k:iO→Bool→Option R):bL m x k=bL m (min x 1000000) k:=by
  have e:∀x,bL m x k=oc aY bx m x k:=fun _=>rfl
  rw[e,e]
  unfold oc
  have:min (min x 1000000) 1000000=min x 1000000:=by omega
  rw[this]
theorem mkD_min (u x:Int):V3 u (min x 1000000)=V3 u x:=by
  unfold V3
  by_cases h:x≤1000000
  · rw[Int.min_eq_left h]
  · rw[if_neg (by omega),if_neg (by omega)]
theorem OF {R:Type} (u x:Int) (hu:Int.tmod u 10≠0) (hb:DR u) (hx : -9223372036854775808≤x) (k:iO→Bool→Option R):bL u x k=k (V3 u x).1 (V3 u x).2:=by
  rw[Zq,←mkD_min u x]
  have:=Uq (R:=R) u 0 (min x 1000000) hu (by simpa using hb) (by omega) (by omega) k
  simpa using this

theorem RF (all:aj) (h:∀x∈all,od x) (h0:cU (bE all [48]) [48] ≠ []) :
    (∀x∈cU (bE all [48]) [48],od x)∧rR (cU (bE all [48]) [48]) 0 % 10≠0∧10 ^ ((cU (bE all [48]) [48]).length - 1)≤rR (cU (bE all [48]) [48]) 0:=by
  obtain ⟨n,hn⟩:=OE (bE all [48])
  have hd:∀x∈cU (bE all [48]) [48],od x:=fun x hx=>h x (Wi _ _ (by rw[hn]; simp[hx]))
  refine ⟨hd,?_,?_⟩
  · rcases RE (bE all [48])with e|⟨l,b,e,hb⟩
    · exact (h0 e).elim
    · have hbd:=hd b (by rw[e]; simp)
      rw[e,RB]
      simp only[rR]
      unfold od at hbd
      have:b.toNat≠48:=fun h=>hb (UInt8.toNat_inj.1 h)
      omega
  · cases e:cU (bE all [48]) [48]with
    | nil=>exact (h0 e).elim
    | cons b t =>
      have hb:b≠48:=Tt all b (t++jU n) (by rw[hn,e]; rfl)
      have hbd:=hd b (by rw[e]; simp)
      unfold od at hbd
      have W0:b.toNat≠48:=fun h=>hb (UInt8.toNat_inj.1 h)
      have:=PX t (10*0+(b.toNat - 48))
      have h2:1*10 ^ t.length≤(10*0+(b.toNat - 48))*10 ^ t.length:=Nat.mul_le_mul_right _ (by omega)
      simp only[rR,List.length_cons,Nat.add_sub_cancel]
      omega

theorem mkD_far {u:Int} (x:Int) (h:1000000000000000<u.natAbs):V3 u x=(⟨0,0⟩,false):=by
  unfold V3
  rw[if_neg (by omega)]

theorem Zr {R:Type} (y2:Int) (vD:aj) (Qa:Int) (z20:aj) (h:∀x∈vD,od x) (hl:vD.length≤1000) (hx : -2000000≤Qa∧Qa≤2000000) (k0:iO→Bool→Option R) :
    (cX (tI ([48]:aj)&&decide (([48]:aj).length<4294967281)) (cX (tI ([48]:aj)&&decide (([48]:aj).length<4294967281)) (bif (!(z20==([]:aj)))then (k0 (⟨0,0⟩:iO) false)else (bif (decide (((cU (bE vD ([48]:aj)) ([48]:aj)).length:Int)>(18:Int)))then (k0 (⟨0,0⟩:iO) false)else (cX (decide (1+(cU (bE vD ([48]:aj)) ([48]:aj)).length≤9223372036854775807)) (cX (decide ((([48]:aj)++(cU (bE vD ([48]:aj)) ([48]:aj))).length≤281474976710656)) (bif sE (([48]:aj)++(cU (bE vD ([48]:aj)) ([48]:aj)))then (bif (y2 != 0)then (bL (IntKind.i64.wrap (0 - (eA (([48]:aj)++(cU (bE vD ([48]:aj)) ([48]:aj)))))) (IntKind.i64.wrap (Qa+(IntKind.i64.wrap (((bE vD ([48]:aj)).length:Int) - ((cU (bE vD ([48]:aj)) ([48]:aj)).length:Int))))) (fun IX JA=>k0 IX JA))else (bL (eA (([48]:aj)++(cU (bE vD ([48]:aj)) ([48]:aj)))) (IntKind.i64.wrap (Qa+(IntKind.i64.wrap (((bE vD ([48]:aj)).length:Int) - ((cU (bE vD ([48]:aj)) ([48]:aj)).length:Int))))) (fun IY IZ=>k0 IY IZ)))else (bif (y2 != 0)then (bL (IntKind.i64.wrap (0 - (eA (([48]:aj)++(cU (bE vD ([48]:aj)) ([48]:aj)))))) (IntKind.i64.wrap (Qa+(IntKind.i64.wrap (((bE vD ([48]:aj)).length:Int) - ((cU (bE vD ([48]:aj)) ([48]:aj)).length:Int))))) (fun IX JA=>k0 IX JA))else (bL (eA (([48]:aj)++(cU (bE vD ([48]:aj)) ([48]:aj)))) (IntKind.i64.wrap (Qa+(IntKind.i64.wrap (((bE vD ([48]:aj)).length:Int) - ((cU (bE vD ([48]:aj)) ([48]:aj)).length:Int))))) (fun IY IZ=>k0 IY IZ)))))))))) =
    if z20 = []then k0 (Zp (y2 != 0) vD Qa).1 (Zp (y2 != 0) vD Qa).2 else k0 ⟨0,0⟩ false:=by
  have q3:(tI ([48]:aj)&&decide (([48]:aj).length<4294967281))=true:=rfl
  have htl:(bE vD [48]).length≤vD.length:=yM _ _
  obtain ⟨n,hn⟩:=OE (bE vD [48])
  have htr:(bE vD [48]).length=(cU (bE vD [48]) [48]).length+n:=by have:=congrArg List.length hn; rw[List.length_append,qj]at this; exact this
  rw[q3,aT rfl,aT rfl]
  by_cases hz:z20 = []
  · subst hz
    have hbe:((([]:aj)==([]:aj)))=true:=rfl
    rw[hbe,if_pos rfl]
    simp only[Bool.not_true,cond_false]
    have w0:IntKind.i64.wrap (((bE vD [48]).length:Int) - ((cU (bE vD [48]) [48]).length:Int))=((bE vD [48]).length:Int) - ((cU (bE vD [48]) [48]).length:Int):=dD (by omega) (by omega)
    have w1:IntKind.i64.wrap (Qa+(((bE vD [48]).length:Int) - ((cU (bE vD [48]) [48]).length:Int)))=Qa+(((bE vD [48]).length:Int) - ((cU (bE vD [48]) [48]).length:Int)):=dD (by omega) (by omega)
    rw[w0,w1,aT (bq (by omega)),aT (bq (by simp only[List.length_append,List.length_cons,List.length_nil]; omega)),Bool.cond_self]
    unfold Zp
    have hc:(([48]:aj)++(cU (bE vD ([48]:aj)) ([48]:aj)))=48::cU (bE vD [48]) [48]:=rfl
    rw[hc]
    by_cases h0:cU (bE vD [48]) [48] = []
    · rw[h0,if_pos rfl]
      have a0:eA (48::([]:aj))=0:=by decide +kernel
      have a1:decide (((([]:aj)).length:Int)>18)=false:=rfl
      have a2:IntKind.i64.wrap (0 - 0)=0:=by decide
      rw[a0,a1,cond_false,a2,Oy,Bool.cond_self]
    · rw[if_neg h0]
      obtain ⟨f1,f2,f3⟩:=RF vD h h0
      have hX : -3000000≤Qa+(((bE vD [48]).length:Int) - ((cU (bE vD [48]) [48]).length:Int)):=by omega
      generalize cU (bE vD [48]) [48]=sh at *
      generalize (Qa+(((bE vD [48]).length:Int) - (sh.length:Int)))=X at *
      have HC:1≤sh.length:=by cases sh with|nil=>exact (h0 rfl).elim|cons _ _=>simp
      by_cases h18:sh.length≤18
      · rw[cY (show ¬(sh.length:Int)>18 by omega),cond_false]
        have kY:=UB sh 0 f1
        have hp:(10:Nat) ^ sh.length≤10 ^ 18:=Nat.pow_le_pow_right (by omega) h18
        have e18:(10:Nat) ^ 18=1000000000000000000:=rfl
        have v48:rR (48::sh) 0=rR sh 0:=rfl
        have ha:eA (48::sh)=(rR sh 0:Int):=by
          obtain ⟨i1,_⟩:=RD (48::sh) (fun x hx=>by rcases List.mem_cons.1 hx with rfl|hx; (unfold od; decide); exact f1 x hx) (by simp)
          unfold eA
          rw[i1 (by rw[v48]; omega),v48]
        rw[ha]
        have hm:Int.tmod (rR sh 0:Int) 10≠0:=by rw[Int.tmod_eq_emod_of_nonneg (by omega)]; omega
        cases hy:(y2 != 0)with
        | true =>
          rw[cond_true,if_pos rfl,dD (by omega) (by omega)]
          have e0:(0 - (rR sh 0:Int)) = -(rR sh 0:Int):=by omega
          rw[e0]
          exact OF _ _ (tmod_neg hm) (by unfold DR; omega) (by omega) _
        | false =>
          rw[cond_false,if_neg (by simp)]
          exact OF _ _ hm (by unfold DR; omega) (by omega) _
      · rw[bq (show (sh.length:Int)>18 by omega),cond_true]
        have hp:(10:Nat) ^ 18≤10 ^ (sh.length - 1):=Nat.pow_le_pow_right (by omega) (by omega)
        have e18:(10:Nat) ^ 18=1000000000000000000:=rfl
        rw[mkD_far _ (by split <;> omega)]
  · have hbe:(z20==([]:aj))=false:=by rw[beq_eq_false_iff_ne]; exact hz
    rw[hbe,if_neg hz]
    rfl

def noD:iO × Bool:=(⟨0,0⟩,false)
def tailD (neg:Bool) (all:aj) (x:Int) (X:aj):iO × Bool :=
  if (ql [101,69] X).1=0 then (if (ql [101,69] X).2 = []then Zp neg all x else noD)
  else if (MI (ql [101,69] X).2).2.1=false then noD
  else if (MI (ql [101,69] X).2).2.2 = []then Zp neg all (x+(MI (ql [101,69] X).2).1)else noD

def BJ (s:aj):iO × Bool :=
  let q:=ql [45] s
  let I:=takeD q.2
  let r:=Fy q.2
  if 400<s.length then noD else if I = []then noD else if 1<I.length∧(I.getD 0 0).toNat=48 then noD
  else if (ql [46] r).1=0 then tailD (q.1 != 0) I 0 (ql [46] r).2
  else if takeD (ql [46] r).2 = []then noD
  else tailD (q.1 != 0) (I++takeD (ql [46] r).2) (-((takeD (ql [46] r).2).length:Int)) (Fy (ql [46] r).2)

theorem Zs (X:aj) : -1000000≤(MI X).1∧(MI X).1≤1000000:=by
  unfold MI
  simp only
  split <;> omega

theorem neN (n:Nat):(((n:Nat):Int) != 0)=(n != 0):=by
  cases n with
  | zero=>rfl
  | succ n=>rw[bne_iff_ne.2 (by omega),bne_iff_ne.2 (by omega)]

theorem RG {R:Type} (q:Nat) (all:aj) (x:Int) (X:aj) (ha:∀c∈all,od c) (hl:all.length≤900) (h1 : -1000≤x) (h2:x≤0) (hX:X.length≤1000) (k:iO→Bool→Option R) :
    aR ([101,69]:aj) X (fun Da F7=>bif (Da != 0)then (bm F7 (fun GB Kc Hw=>bif (!Kc)then (k (⟨0,0⟩:iO) false)else (cX (tI ([48]:aj)&&decide (([48]:aj).length<4294967281)) (cX (tI ([48]:aj)&&decide (([48]:aj).length<4294967281)) (bif (!(Hw==([]:aj)))then (k (⟨0,0⟩:iO) false)else (bif (decide (((cU (bE all ([48]:aj)) ([48]:aj)).length:Int)>(18:Int)))then (k (⟨0,0⟩:iO) false)else (cX (decide (1+(cU (bE all ([48]:aj)) ([48]:aj)).length≤9223372036854775807)) (cX (decide ((([48]:aj)++(cU (bE all ([48]:aj)) ([48]:aj))).length≤281474976710656)) (bif sE (([48]:aj)++(cU (bE all ([48]:aj)) ([48]:aj)))then (bif ((q:Int) != 0)then (bL (IntKind.i64.wrap (0 - (eA (([48]:aj)++(cU (bE all ([48]:aj)) ([48]:aj)))))) (IntKind.i64.wrap ((IntKind.i64.wrap (x+GB))+(IntKind.i64.wrap (((bE all ([48]:aj)).length:Int) - ((cU (bE all ([48]:aj)) ([48]:aj)).length:Int))))) (fun IX JA=>k IX JA))else (bL (eA (([48]:aj)++(cU (bE all ([48]:aj)) ([48]:aj)))) (IntKind.i64.wrap ((IntKind.i64.wrap (x+GB))+(IntKind.i64.wrap (((bE all ([48]:aj)).length:Int) - ((cU (bE all ([48]:aj)) ([48]:aj)).length:Int))))) (fun IY IZ=>k IY IZ)))else (bif ((q:Int) != 0)then (bL (IntKind.i64.wrap (0 - (eA (([48]:aj)++(cU (bE all ([48]:aj)) ([48]:aj)))))) (IntKind.i64.wrap ((IntKind.i64.wrap (x+GB))+(IntKind.i64.wrap (((bE all ([48]:aj)).length:Int) - ((cU (bE all ([48]:aj)) ([48]:aj)).length:Int))))) (fun IX JA=>k IX JA))else (bL (eA (([48]:aj)++(cU (bE all ([48]:aj)) ([48]:aj)))) (IntKind.i64.wrap ((IntKind.i64.wrap (x+GB))+(IntKind.i64.wrap (((bE all ([48]:aj)).length:Int) - ((cU (bE all ([48]:aj)) ([48]:aj)).length:Int))))) (fun IY IZ=>k IY IZ))))))))))))else (cX (tI ([48]:aj)&&decide (([48]:aj).length<4294967281)) (cX (tI ([48]:aj)&&decide (([48]:aj).length<4294967281)) (bif (!(F7==([]:aj)))then (k (⟨0,0⟩:iO) false)else (bif (decide (((cU (bE all ([48]:aj)) ([48]:aj)).length:Int)>(18:Int)))then (k (⟨0,0⟩:iO) false)else (cX (decide (1+(cU (bE all ([48]:aj)) ([48]:aj)).length≤9223372036854775807)) (cX (decide ((([48]:aj)++(cU (bE all ([48]:aj)) ([48]:aj))).length≤281474976710656)) (bif sE (([48]:aj)++(cU (bE all ([48]:aj)) ([48]:aj)))then (bif ((q:Int) != 0)then (bL (IntKind.i64.wrap (0 - (eA (([48]:aj)++(cU (bE all ([48]:aj)) ([48]:aj)))))) (IntKind.i64.wrap (x+(IntKind.i64.wrap (((bE all ([48]:aj)).length:Int) - ((cU (bE all ([48]:aj)) ([48]:aj)).length:Int))))) (fun IX JA=>k IX JA))else (bL (eA (([48]:aj)++(cU (bE all ([48]:aj)) ([48]:aj)))) (IntKind.i64.wrap (x+(IntKind.i64.wrap (((bE all ([48]:aj)).length:Int) - ((cU (bE all ([48]:aj)) ([48]:aj)).length:Int))))) (fun IY IZ=>k IY IZ)))else (bif ((q:Int) != 0)then (bL (IntKind.i64.wrap (0 - (eA (([48]:aj)++(cU (bE all ([48]:aj)) ([48]:aj)))))) (IntKind.i64.wrap (x+(IntKind.i64.wrap (((bE all ([48]:aj)).length:Int) - ((cU (bE all ([48]:aj)) ([48]:aj)).length:Int))))) (fun IX JA=>k IX JA))else (bL (eA (([48]:aj)++(cU (bE all ([48]:aj)) ([48]:aj)))) (IntKind.i64.wrap (x+(IntKind.i64.wrap (((bE all ([48]:aj)).length:Int) - ((cU (bE all ([48]:aj)) ([48]:aj)).length:Int))))) (fun IY IZ=>k IY IZ)))))))))))=k (tailD (q != 0) all x X).1 (tailD (q != 0) all x X).2:=by
  rw[A9 _ _ (by omega)]
  unfold tailD
  have l5:=IJ [101,69] X
  generalize ql [101,69] X=g at *
  rw[neN]
  by_cases hg:g.1=0
  · rw[if_pos hg,hg]
    simp only[bne_self_eq_false,cond_false]
    rw[Zr _ _ _ _ ha (by omega) (by omega),neN]
    split <;> rfl
  · rw[if_neg hg,bne_iff_ne.2 hg,cond_true,exp_any _ (by omega)]
    have Pe:=Zs g.2
    generalize MI g.2=z at *
    rw[dD (n:=x+z.1) (by omega) (by omega)]
    cases hz:z.2.1 with
    | false=>rfl
    | true =>
      rw[Bool.not_true,cond_false,Zr _ _ _ _ ha (by omega) (by omega),neN,if_neg (show ¬(true=false) by simp)]
      split <;> rfl

theorem OG {R:Type} (s:aj) (hs:s.length≤4000000000) (k:iO→Bool→Option R):dz s k=k (BJ s).1 (BJ s).2:=by
  have e:dz s k=oI bL aR aN bm s k:=rfl
  rw[e]
  unfold oI
  have l1:=IJ [45] s
  rw[A9 _ _ hs]
  unfold BJ
  simp only
  generalize ql [45] s=q at *
  rw[Hn _ (by omega)]
  have l2:=PW q.2
  have l3:=RA q.2
  have dI:=II q.2
  generalize takeD q.2=I at *
  generalize Fy q.2=r at *
  by_cases h400:400<s.length
  · rw[bq (show (s.length:Int)>400 by omega),cond_true,if_pos h400]
    rfl
  rw[cY (show ¬(s.length:Int)>400 by omega),cond_false,if_neg h400]
  by_cases hI:I = []
  · subst hI
    rw[if_pos rfl]
    rfl
  have j7:(I==([]:aj))=false:=by rw[beq_eq_false_iff_ne]; exact hI
  rw[j7,cond_false,if_neg hI]
  have HC:1≤I.length:=by cases I with|nil=>exact (hI rfl).elim|cons _ _=>simp
  have q48:(((I.getD 0 0).toNat:Int)==48)=decide ((I.getD 0 0).toNat=48):=eqI _ 48
  rw[aT (bq (show (0:Int)<I.length by omega)),q48]
  by_cases W0:1<I.length∧(I.getD 0 0).toNat=48
  · rw[if_pos W0,bq (show (I.length:Int)>1 by omega),bq W0.2]
    rfl
  rw[if_neg W0]
  have cut:∀x:Option R,(bif decide ((I.length:Int)>1)then (bif decide ((I.getD 0 0).toNat=48)then k ⟨0,0⟩ false else x)else x)=x:=fun x=>by
    by_cases h1:1<I.length
    · rw[bq (show (I.length:Int)>1 by omega),cY (fun h=>W0 ⟨h1,h⟩)]; rfl
    · rw[cY (show ¬(I.length:Int)>1 by omega)]; rfl
  rw[cut]
  rw[A9 _ _ (by omega)]
  have l4:=IJ [46] r
  generalize ql [46] r=p at *
  rw[neN]
  by_cases hp:p.1=0
  · rw[if_pos hp,hp]
    simp only[bne_self_eq_false,cond_false]
    exact RG q.1 I 0 p.2 dI (by omega) (by omega) (by omega) (by omega) k
  · rw[if_neg hp,bne_iff_ne.2 hp,cond_true,Hn _ (by omega)]
    have l5:=PW p.2
    have l6:=RA p.2
    have dF:=II p.2
    generalize takeD p.2=F at *
    generalize Fy p.2=Y at *
    by_cases hF:F = []
    · subst hF
      rw[if_pos rfl]
      rfl
    have j7:(F==([]:aj))=false:=by rw[beq_eq_false_iff_ne]; exact hF
    rw[j7,cond_false,if_neg hF,aT (bq (by omega)),dD (n:=0 - (F.length:Int)) (by omega) (by omega)]
    have e0:(0:Int) - (F.length:Int) = -(F.length:Int):=by omega
    rw[e0]
    exact RG q.1 (I++F) (-(F.length:Int)) Y (fun c hc=>(List.mem_append.1 hc).elim (dI c) (dF c)) (by rw[List.length_append]; omega) (by omega) (by omega) (by omega) k

theorem Wj {s r:aj} {c:Nat} (h:IF s=some (c,r)):r <:+ s:=by
  unfold IF at h
  split at h
  · cases h
  · rename_i v r1 hu
    obtain ⟨_,_,hr⟩:=BI hu
    have s1:r1 <:+ s:=by rw[hr]; exact List.drop_suffix _ _
    split at h
    · cases h; exact s1
    · split at h
      · cases h
      · split at h
        · split at h
          · cases h
          · rename_i w r2 TR
            obtain ⟨_,_,hr2⟩:=BI TR
            split at h
            · simp only[Option.some.injEq,Prod.mk.injEq]at h
              obtain ⟨_,rfl⟩:=h
              rw[hr2]
              exact ((List.drop_suffix _ _).trans (List.drop_suffix _ _)).trans s1
            · cases h
        · cases h
theorem Zt {s r:aj} {c:Nat} (h:Rt s=some (c,r)):r <:+ s:=by
  cases s with
  | nil=>cases h
  | cons b t =>
    have st:t <:+ b::t:=List.suffix_cons b t
    simp only[Rt]at h
    split at h
    · cases h; exact st
    split at h
    · cases h; exact st
    split at h
    · cases h; exact st
    split at h
    · cases h; exact st
    split at h
    · cases h; exact st
    split at h
    · cases h; exact st
    split at h
    · exact (Wj h).trans st
    · cases h
theorem Tu {s r:aj} {c:Nat} (h:D6 s=some (c,r)):r <:+ s:=by
  unfold D6 at h
  split at h
  · cases h
  split at h
  · cases h
  split at h
  · cases h
  simp only[Option.some.injEq,Prod.mk.injEq]at h
  rw[←h.2]
  exact List.drop_suffix _ _
theorem Wl {s r:aj} {c:Nat} (h:IH s=some (c,r)):r <:+ s:=by
  unfold IH at h
  split at h
  · exact (Zt h).trans (List.drop_suffix _ _)
  · exact Tu h
theorem Zu:∀(n:Nat) (s o o' r:aj),uq n s o=some (o',r)→r <:+ s∧r.length<s.length∧∃rs:List Nat,(∀c∈rs,vr c)∧o'=o++cT rs
  | 0,_,_,_,_,h=>by cases h
  | n+1,s,o,o',r,h=>by
    simp only[uq]at h
    split at h
    · rename_i GJ
      simp only[Option.some.injEq,Prod.mk.injEq]at h
      obtain ⟨rfl,rfl⟩:=h
      refine ⟨List.drop_suffix _ _,?_, [],by simp,by simp[cT]⟩
      cases s with
      | nil=>cases GJ
      | cons b t=>simp
    · split at h
      · cases h
      · rename_i c r1 hs
        obtain ⟨h1,h2,rs,h3,h4⟩:=Zu n r1 (o++enc c) o' r h
        obtain ⟨hv,hl⟩:=Rx hs
        refine ⟨h1.trans (Wl hs),by omega,c::rs,fun x hx => ?_,?_⟩
        · rcases List.mem_cons.1 hx with rfl|hx
          · exact hv
          · exact h3 x hx
        · rw[h4]; simp[cT]
theorem UC {s o r:aj} (h:Zd s=some (o,r)):r <:+ s∧r.length+1<s.length∧∃rs:List Nat,(∀c∈rs,vr c)∧o=cT rs:=by
  unfold Zd at h
  split at h
  · rename_i GJ
    obtain ⟨h1,h2,rs,h3,h4⟩:=Zu _ _ _ _ _ h
    refine ⟨h1.trans (List.drop_suffix _ _),?_,rs,h3,by simpa using h4⟩
    rw[List.length_drop]at h2
    omega
  · cases h
theorem Zv {s r:aj} (h:r <:+ s):r=s.drop (s.length - r.length):=by
  obtain ⟨t,rfl⟩:=h
  rw[List.length_append,Nat.add_sub_cancel,List.drop_left]

def numS:aj := [48,49,50,51,52,53,54,55,56,57,43,45,46,101,69]
def letS:aj := [97,98,99,100,101,102,103,104,105,106,107,108,109,110,111,112,113,114,115,116,117,118,119,120,121,122]
def blaS:aj := [32,9,10,13]
def Tv:aj := [123,125,91,93,44,58]
def zY (b:UInt8):Bool:=numS.contains b
def zz (b:UInt8):Bool:=letS.contains b
def rE (b:UInt8):Bool:=blaS.contains b
def IK (b:UInt8):Bool:=Tv.contains b
def sc:aj := [116,114,117,101]
def ll:aj := [102,97,108,115,101]
def oZ:aj := [110,117,108,108]

def tokS (s:aj):Option (Token × aj) :=
  match s with
  | []=>none
  | c::t =>
    if c.toNat=45∨(48≤c.toNat∧c.toNat≤57)then
      (if (BJ (s.takeWhile zY)).2 then some (⟨3,s.takeWhile zY,(BJ (s.takeWhile zY)).1,0⟩,s.dropWhile zY)else none)
    else if c.toNat=34 then (match Zd s with|some (o,r)=>some (⟨2,o,⟨0,0⟩,0⟩,r)|none=>none)
    else if IK c then some (⟨1, [c],⟨0,0⟩,0⟩,t)
    else if s.takeWhile zz=sc∨s.takeWhile zz=ll∨s.takeWhile zz=oZ then some (⟨4,s.takeWhile zz,⟨0,0⟩,0⟩,s.dropWhile zz)
    else none

theorem Zw {p:UInt8→Bool} {c:UInt8} {t:aj} (h:p c=true):((c::t).dropWhile p).length<(c::t:aj).length:=by
  rw[List.dropWhile_cons,if_pos h]
  have:=yM p t
  simp only[List.length_cons]
  omega

theorem tokS_sfx {s r:aj} {t:Token} (h:tokS s=some (t,r)):r <:+ s∧r.length<s.length:=by
  cases s with
  | nil=>cases h
  | cons c u =>
    simp only[tokS]at h
    split at h
    · rename_i hc
      split at h
      · simp only[Option.some.injEq,Prod.mk.injEq]at h
        rw[←h.2]
        refine ⟨List.dropWhile_suffix _,Zw ?_⟩
        have all:∀n:Fin 256,(n.val=45∨(48≤n.val∧n.val≤57))→zY (UInt8.ofNat n.val)=true:=by decide +kernel
        have:=all ⟨c.toNat,UInt8.toNat_lt c⟩ hc
        simpa using this
      · cases h
    · split at h
      · split at h
        · rename_i o q hq
          simp only[Option.some.injEq,Prod.mk.injEq]at h
          obtain ⟨_,rfl⟩:=h
          obtain ⟨h1,h2,_⟩:=UC hq
          exact ⟨h1,by omega⟩
        · cases h
      · split at h
        · simp only[Option.some.injEq,Prod.mk.injEq]at h
          rw[←h.2]
          exact ⟨List.suffix_cons _ _,by simp⟩
        · split at h
          · rename_i hw
            simp only[Option.some.injEq,Prod.mk.injEq]at h
            rw[←h.2]
            refine ⟨List.dropWhile_suffix _,Zw ?_⟩
            cases hl:zz c with
            | true=>rfl
            | false =>
              have e:(c::u).takeWhile zz = []:=by rw[List.takeWhile_cons,hl]; rfl
              rw[e]at hw
              rcases hw with hw|hw|hw <;> cases hw
          · cases h

def putT (t:Token) (n:Int):Token:=⟨t.kind,t.text,t.num,n⟩

def vT:Nat→Nat→aj→List Token→List Token × Int × Int
  | 0,_,_,_=>([],0,0)
  | n+1,p,s,out =>
    if s.dropWhile rE = []then (out ++ [⟨5, [],⟨0,0⟩,((p+(s.takeWhile rE).length:Nat):Int)⟩],0,0)
    else match tokS (s.dropWhile rE)with
      | none=>([],30,((p+(s.takeWhile rE).length:Nat):Int))
      | some (t,r)=>vT n (p+(s.length - r.length)) r (out ++ [putT t ((p+(s.takeWhile rE).length:Nat):Int)])

def tM (s:aj):List Token × Int × Int:=if 20000<s.length then ([],30,0)else vT (s.length+1) 0 s []

theorem MJ:∀(n m p:Nat) (s:aj) (out:List Token),s.length<n→s.length<m→vT n p s out=vT m p s out
  | 0,_,_,_,_,h,_=>by omega
  | _,0,_,_,_,_,h=>by omega
  | n+1,m+1,p,s,out,h1,h2=>by
    simp only[vT]
    split
    · rfl
    · split
      · rfl
      · rename_i t r hr
        have h3:=(tokS_sfx hr).2
        have h4:=yM rE s
        exact MJ n m _ r _ (by omega) (by omega)

abbrev sT:=aj × aj × Token
def qO:List sT→aj→aj
  | [],z=>z
  | x::l,z=>x.1++(x.2.1++qO l z)
def okW:List sT→aj→Prop
  | [],_=>True
  | x::l,z=>(∀b∈x.1,rE b=true)∧(∃c u,x.2.1=c::u∧rE c=false)∧tokS (x.2.1++qO l z)=some (x.2.2,qO l z)∧okW l z
def tokW:Nat→List sT→List Token
  | _, [] => []
  | p,x::l=>putT x.2.2 ((p+x.1.length:Nat):Int)::tokW (p+x.1.length+x.2.1.length) l
def Fz:List sT→Nat
  | []=>0
  | x::l=>x.1.length+x.2.1.length+Fz l
theorem MK:∀(l:List sT) (z:aj),(qO l z).length=Fz l+z.length
  | [],z=>by simp[qO,Fz]
  | x::l,z=>by simp only[qO,Fz,List.length_append,MK l z]; omega

theorem Tw:∀(g r:aj),(∀b∈g,rE b=true)→(∃c u,r=c::u∧rE c=false)∨r = []→(g++r).takeWhile rE=g∧(g++r).dropWhile rE=r
  | [],r,_,h=>by
    rcases h with ⟨c,u,rfl,hc⟩|rfl
    · exact ⟨by rw[List.nil_append,List.takeWhile_cons,hc]; rfl,by rw[List.nil_append,List.dropWhile_cons,hc]; rfl⟩
    · exact ⟨rfl,rfl⟩
  | b::g,r,hg,h=>by
    have hb:=hg b (by simp)
    obtain ⟨h1,h2⟩:=Tw g r (fun x hx=>hg x (by simp[hx])) h
    refine ⟨?_,?_⟩
    · rw[List.cons_append,List.takeWhile_cons,hb,if_pos rfl,h1]
    · rw[List.cons_append,List.dropWhile_cons,hb,if_pos rfl,h2]

theorem ML:∀(l:List sT) (z:aj) (n p:Nat) (out:List Token),okW l z→l.length<n→vT n p (qO l z) out=vT (n - l.length) (p+Fz l) z (out++tokW p l)
  | [],z,n,p,out,_,_=>by simp[qO,Fz,tokW]
  | x::l,z,n,p,out,h,hn=>by
    obtain ⟨h1,⟨c,u,h2,h3⟩,h4,h5⟩:=h
    obtain ⟨n,rfl⟩:∃m,n=m+1:=⟨n - 1,by omega⟩
    simp only[List.length_cons]at hn
    obtain ⟨t1,t2⟩:=Tw x.1 (x.2.1++qO l z) h1 (.inl ⟨c,u++qO l z,by rw[h2]; rfl,h3⟩)
    have Zx:qO (x::l) z=x.1++(x.2.1++qO l z):=rfl
    have j7:¬(x.2.1++qO l z = []):=by rw[h2]; simp
    have hw:0<x.2.1.length:=by rw[h2]; simp
    simp only[vT]
    rw[Zx,t1,t2,if_neg j7,h4]
    simp only
    have e1:(x.1++(x.2.1++qO l z)).length - (qO l z).length=x.1.length+x.2.1.length:=by simp only[List.length_append]; omega
    rw[e1,ML l z n _ _ h5 (by omega)]
    have e2:n+1 - (x::l).length=n - l.length:=by simp
    have e3:p+(x.1.length+x.2.1.length)+Fz l=p+Fz (x::l):=by simp only[Fz]; omega
    have e4:p+(x.1.length+x.2.1.length)=p+x.1.length+x.2.1.length:=by omega
    rw[e2,e3]
    simp only[tokW,List.append_assoc,List.singleton_append]
    rw[e4]

theorem Zy {g:aj} (hg:∀b∈g,rE b=true) (n p:Nat) (out:List Token):vT (n+1) p g out=(out ++ [⟨5, [],⟨0,0⟩,((p+g.length:Nat):Int)⟩],0,0):=by
  obtain ⟨t1,t2⟩:=Tw g [] hg (.inr rfl)
  rw[List.append_nil]at t1 t2
  simp only[vT]
  rw[t1,t2,if_pos rfl]
theorem RH (l:List sT) (g:aj) (hg:∀b∈g,rE b=true) (h:okW l g) (hl:Fz l+g.length≤20000):tM (qO l g)=(tokW 0 l ++ [⟨5, [],⟨0,0⟩,((Fz l+g.length:Nat):Int)⟩],0,0):=by
  unfold tM
  have hlen:=MK l g
  rw[if_neg (by omega)]
  have hcount:l.length≤Fz l:=by
    clear hl hlen
    induction l with
    | nil=>simp[Fz]
    | cons x l ih =>
      obtain ⟨_,⟨c,u,h2,_⟩,_,h5⟩:=h
      have:=ih h5
      have hw:0<x.2.1.length:=by rw[h2]; simp
      simp only[Fz,List.length_cons]
      omega
  rw[ML l g _ 0 [] h (by omega),hlen]
  obtain ⟨m,hm⟩:∃m,Fz l+g.length+1 - l.length=m+1:=⟨Fz l+g.length - l.length,by omega⟩
  rw[hm,Zy hg]
  simp

def Kd (r:aj):Prop:=r = []∨∃b u,r=b::u∧zY b=false∧zz b=false
def Word (w:aj) (t:Token):Prop:=(∃c u,w=c::u∧rE c=false)∧∀r,Kd r→tokS (w++r)=some (t,r)

theorem PY {p:UInt8→Bool}:∀(w r:aj),(∀b∈w,p b=true)→(r = []∨∃b u,r=b::u∧p b=false)→(w++r).takeWhile p=w∧(w++r).dropWhile p=r
  | [],r,_,h=>by
    rcases h with rfl|⟨b,u,rfl,hb⟩
    · exact ⟨rfl,rfl⟩
    · exact ⟨by rw[List.nil_append,List.takeWhile_cons,hb]; rfl,by rw[List.nil_append,List.dropWhile_cons,hb]; rfl⟩
  | b::w,r,hw,h=>by
    have hb:=hw b (by simp)
    obtain ⟨h1,h2⟩:=PY w r (fun x hx=>hw x (by simp[hx])) h
    exact ⟨by rw[List.cons_append,List.takeWhile_cons,hb,if_pos rfl,h1],by rw[List.cons_append,List.dropWhile_cons,hb,if_pos rfl,h2]⟩
theorem Zz {r:aj} (h:Kd r):r = []∨∃b u,r=b::u∧zY b=false:=h.imp id fun ⟨b,u,e,h1,_⟩=>⟨b,u,e,h1⟩
theorem ZA {r:aj} (h:Kd r):r = []∨∃b u,r=b::u∧zz b=false:=h.imp id fun ⟨b,u,e,_,h1⟩=>⟨b,u,e,h1⟩

theorem Wm (c:UInt8) (h:IK c=true):Word [c] ⟨1, [c],⟨0,0⟩,0⟩:=by
  have all:∀n:Fin 256,IK (UInt8.ofNat n.val)=true→rE (UInt8.ofNat n.val)=false∧¬(n.val=45∨(48≤n.val∧n.val≤57))∧¬n.val=34:=by decide +kernel
  obtain ⟨h1,h2,h3⟩:=all ⟨c.toNat,UInt8.toNat_lt c⟩ (by simpa using h)
  refine ⟨⟨c, [],rfl,by simpa using h1⟩,fun r _ => ?_⟩
  show tokS (c::r)=_
  simp only[tokS]
  rw[if_neg h2,if_neg h3,if_pos h]

theorem JM {w:aj} (h:w=sc∨w=ll∨w=oZ):Word w ⟨4,w,⟨0,0⟩,0⟩:=by
  have hl:∀b∈w,zz b=true:=by rcases h with rfl|rfl|rfl <;> decide
  have hc:∃c u,w=c::u∧rE c=false∧¬(c.toNat=45∨(48≤c.toNat∧c.toNat≤57))∧¬c.toNat=34∧IK c=false:=by
    rcases h with rfl|rfl|rfl <;> exact ⟨_,_,rfl,by decide,by decide,by decide,by decide⟩
  obtain ⟨c,u,rfl,h1,h2,h3,h4⟩:=hc
  refine ⟨⟨c,u,rfl,h1⟩,fun r hr => ?_⟩
  obtain ⟨t1,t2⟩:=PY (c::u) r hl (ZA hr)
  show tokS (c::(u++r))=_
  have e:(c::(u++r):aj)=(c::u)++r:=rfl
  simp only[tokS]
  rw[if_neg h2,if_neg h3,h4,if_neg (by simp),e,t1,t2,if_pos h]

theorem Wn {rs:List Nat} (hr:∀c∈rs,vr c):Word (qt rs) ⟨2,cT rs,⟨0,0⟩,0⟩:=by
  have e:qt rs=34::(IG rs ++ [34]):=by unfold qt; simp
  refine ⟨⟨34,_,e,by decide⟩,fun r _ => ?_⟩
  have hu:=Zf rs hr r
  have e2:qt rs++r=34::(IG rs ++ [34]++r):=by rw[e]; rfl
  rw[e2]at hu ⊢
  simp only[tokS]
  rw[if_neg (by decide),if_pos (by decide),hu]

theorem Tx {d:iO} (hd:Fm d):BJ (NL d)=(d,true):=by
  have key:∀k:iO→Bool→Option (iO × Bool),dz (NL d) k=k d true:=fun k=>by
    by_cases h0:d.aB=0
    · rw[hd.zero h0,MH,Ts]
    · have:=Wf hd h0 [] 0 (.inl ⟨rfl,rfl⟩) (by omega) (by simp) k
      rw[List.append_nil,Int.add_zero,Wg hd h0]at this
      exact this
  have hl:(NL d).length≤4000000000:=by
    by_cases h0:d.aB=0
    · rw[hd.zero h0,MH]; simp
    · obtain ⟨I,F,pt,a,b,e1,e2,i0,i1,f0,f1,fl,il,iD,fD⟩:=JL d hd h0
      rw[e1]
      cases hdn:decide (d.aB<0) <;> cases pt <;> simp <;> omega
  have h1:=OG (NL d) hl (fun a b=>some (a,b))
  rw[key]at h1
  simp only[Option.some.injEq]at h1
  rw[h1]

theorem OH {d:iO} (hd:Fm d):(∀b∈NL d,zY b=true)∧(∃c u,NL d=c::u∧(c.toNat=45∨(48≤c.toNat∧c.toNat≤57)))∧(NL d).length≤60:=by
  have dig:∀b:UInt8,od b→zY b=true:=fun b hb=>by
    have all:∀n:Fin 256,(48≤n.val∧n.val≤57)→zY (UInt8.ofNat n.val)=true:=by decide +kernel
    have:=all ⟨b.toNat,UInt8.toNat_lt b⟩ hb
    simpa using this
  by_cases h0:d.aB=0
  · rw[hd.zero h0,MH]
    exact ⟨by decide,⟨48, [],rfl,by decide⟩,by simp⟩
  · obtain ⟨I,F,pt,a,b,e1,e2,i0,i1,f0,f1,fl,il,iD,fD⟩:=JL d hd h0
    rw[e1]
    refine ⟨fun x hx => ?_,?_,?_⟩
    · rcases List.mem_append.1 hx with hx|hx
      · split at hx
        · simp at hx; subst hx; decide
        · simp at hx
      · rcases List.mem_append.1 hx with hx|hx
        · exact dig x (iD x hx)
        · split at hx
          · rcases List.mem_cons.1 hx with rfl|hx
            · decide
            · exact dig x (fD x hx)
          · simp at hx
    · cases I with
      | nil=>exact (i0 rfl).elim
      | cons c I =>
        cases decide (d.aB<0)with
        | true=>exact ⟨45,_,rfl,by decide⟩
        | false=>exact ⟨c,_,rfl, .inr (iD c (by simp))⟩
    · cases hdn:decide (d.aB<0) <;> cases pt <;> simp <;> omega

theorem ZB {d:iO} (hd:Fm d):Word (NL d) ⟨3,NL d,d,0⟩:=by
  obtain ⟨h1,⟨c,u,h2,h3⟩,_⟩:=OH hd
  have hp:=Tx hd
  have hb:rE c=false:=by
    have all:∀n:Fin 256,(n.val=45∨(48≤n.val∧n.val≤57))→rE (UInt8.ofNat n.val)=false:=by decide +kernel
    have:=all ⟨c.toNat,UInt8.toNat_lt c⟩ h3
    simpa using this
  refine ⟨⟨c,u,h2,hb⟩,fun r hr => ?_⟩
  obtain ⟨t1,t2⟩:=PY (NL d) r h1 (Zz hr)
  have e:NL d++r=c::(u++r):=by rw[h2]; rfl
  rw[e]at t1 t2 ⊢
  simp only[tokS]
  rw[if_pos h3,t1,t2,hp]
  rfl
def sg (c:UInt8):sT:=([], [c],⟨1, [c],⟨0,0⟩,0⟩)
theorem zA:∀(a b:List sT) (z:aj),qO (a++b) z=qO a (qO b z)
  | [],_,_=>rfl
  | x::a,b,z=>by simp only[List.cons_append,qO,zA a b z]

theorem xi:∀(a b:List sT) (z:aj),okW (a++b) z↔okW a (qO b z)∧okW b z
  | [],b,z=>by simp[okW]
  | x::a,b,z=>by simp only[List.cons_append,okW,xi a b z,zA,and_assoc]

theorem IL {w:aj} {t:Token} (h:Word w t) {z:aj} (hz:Kd z):okW [([],w,t)] z:=⟨by simp,h.1,h.2 z hz,trivial⟩
theorem BK {c:UInt8} (h:IK c=true) (z:aj):okW [sg c] z:=by
  refine ⟨by simp[sg],(Wm c h).1,?_,trivial⟩
  have all:∀n:Fin 256,IK (UInt8.ofNat n.val)=true→¬(n.val=45∨(48≤n.val∧n.val≤57))∧¬n.val=34:=by decide +kernel
  obtain ⟨h2,h3⟩:=all ⟨c.toNat,UInt8.toNat_lt c⟩ (by simpa using h)
  show tokS (c::z)=some (⟨1, [c],⟨0,0⟩,0⟩,z)
  simp only[tokS]
  rw[if_neg h2,if_neg h3,if_pos h]
theorem FW {c:UInt8} (h:IK c=true) (z:aj):Kd (c::z):=by
  have all:∀n:Fin 256,IK (UInt8.ofNat n.val)=true→zY (UInt8.ofNat n.val)=false∧zz (UInt8.ofNat n.val)=false:=by decide +kernel
  obtain ⟨h2,h3⟩:=all ⟨c.toNat,UInt8.toNat_lt c⟩ (by simpa using h)
  exact .inr ⟨c,z,rfl,by simpa using h2,by simpa using h3⟩

end Go.Proofs.YtmlkkgfenfdndaaGreatDoor

/-
  Functions of the program as pure Lean functions, and the ties; printed by wip/tools/emit.py.
-/
set_option maxRecDepth 100000
namespace Go.Proofs.YtmlkkgfenfdndaaGreatDoor
open Go Go.ay

end Go.Proofs.YtmlkkgfenfdndaaGreatDoor

/-
  Functions of the program as pure Lean functions, and the ties; printed by wip/tools/emit.py.
-/
set_option maxRecDepth 100000
namespace Go.Proofs.YtmlkkgfenfdndaaGreatDoor
open Go Go.ay

end Go.Proofs.YtmlkkgfenfdndaaGreatDoor

set_option maxRecDepth 100000
namespace Go.Proofs.YtmlkkgfenfdndaaGreatDoor
open Go Go.ay Go.Lib

section
variable {R:Type} (k:iO→Bool→Option R) (s:aj) (hs:s.length≤4000000000) (sg:Int) (hsg:sg=1∨sg = -1) (all:aj) (x:Int) (ha:∀c∈all,od c) (h0:all ≠ []) (hl:all.length≤900) (hx : -1000≤x∧x≤0)
include hs hsg ha h0 hl hx

end


def fmB (d:iO):Bool:=(d.aB==0&&d.exp==0)||(Int.tmod d.aB 10 != 0&&(decide (-1000000000000000≤d.aB)&&decide (d.aB≤1000000000000000)&&(decide (-9≤d.exp)&&decide (d.exp≤9))))
theorem IM {d:iO}:fmB d=true↔Fm d:=by
  unfold fmB Fm
  simp[and_assoc]

theorem OI {R:Type} (d:iO) (k:Bool→Option R):cd d k=k (fmB d):=by
  have e:cd d k=lK aY d k:=rfl
  rw[e]
  unfold lK fmB
  by_cases h0:d.aB=0
  · rw[h0]
    have t0:((0:Int)==0)=true:=rfl
    have t1:(Int.tmod 0 10 != 0)=false:=rfl
    rw[t0,t1,cond_true,Bool.true_and,Bool.false_and,Bool.or_false]
  · have e0:(d.aB==0)=false:=by rw[beq_eq_false_iff_ne]; exact h0
    rw[e0,cond_false,Bool.false_and,Bool.false_or]
    cases ht:(Int.tmod d.aB 10 != 0)with
    | false=>rfl
    | true =>
      rw[cond_true,Bool.true_and,Dk]
      cases (decide (-1000000000000000≤d.aB)&&decide (d.aB≤1000000000000000))with
      | false=>rfl
      | true=>rw[cond_true,Dk,Bool.true_and]


theorem Wo {R:Type} {d:iO} (hd:fmB d=false) (k:aj→Option R):bc d k=k []:=by
  have e:bc d k=oH cd ah af ag d k:=rfl
  rw[e]
  unfold oH
  rw[OI,hd]
  rfl
def B7 (d:iO):aj:=if fmB d then NL d else []
theorem OJ {R:Type} (d:iO) (k:aj→Option R):bc d k=k (B7 d):=by
  unfold B7
  cases h:fmB d with
  | true=>rw[YX (IM.1 h)]; rfl
  | false=>rw[Wo h]; rfl

def vU:List aj→List aj→Bool
  | _, []=>true
  | seen,n::l => !seen.contains n&&jt n&&vU (n::seen) l

mutual
def gB:Json→Int→Bool
  | ⟨k,n,t,ns,is⟩,d=>decide (d≤16)&&(decide (1≤k)&&decide (k≤7))&&(k==4||(n.aB==0&&n.exp==0))&&(k==5||t.isEmpty)&&(k==7||ns.isEmpty)&&(k==6||k==7||is.isEmpty) &&
      (if k=4 then fmB n else if k=5 then jt t else if k=7 then decide (ns.length=is.length)&&vU [] ns&&jj is (d+1)else jj is (d+1))
def jj:List Json→Int→Bool
  | [],_=>true
  | x::l,d=>gB x d&&jj l d
end

theorem Ho {d:Int}:∀ {l:List Json} {x:Json},jj l d=true→x∈l→gB x d=true
  | y::l,x,h,hx=>by
    simp only[jj,Bool.and_eq_true]at h
    rcases List.mem_cons.1 hx with rfl|hx
    · exact h.1
    · exact Ho h.2 hx

inductive JN:Json→Int→Prop where
  | name (k:Int) (d:Int) (hd:d≤16) (hk:k=1∨k=2∨k=3):JN ⟨k,⟨0,0⟩, [], [], []⟩ d
  | num (n:iO) (d:Int) (hd:d≤16) (hn:Fm n):JN ⟨4,n, [], [], []⟩ d
  | text (t:aj) (d:Int) (hd:d≤16) (ht:jt t=true):JN ⟨5,⟨0,0⟩,t, [], []⟩ d
  | arr (is:List Json) (d:Int) (hd:d≤16) (hi:jj is (d+1)=true):JN ⟨6,⟨0,0⟩, [], [],is⟩ d
  | obj (ns:List aj) (is:List Json) (d:Int) (hd:d≤16) (hl:ns.length=is.length) (hu:vU [] ns=true) (hi:jj is (d+1)=true):JN ⟨7,⟨0,0⟩, [],ns,is⟩ d

theorem pk {v:Json} {d:Int}:gB v d=true↔JN v d:=by
  obtain ⟨k,⟨m,e⟩,t,ns,is⟩:=v
  constructor
  · intro h
    simp only[gB,Bool.and_eq_true,Bool.or_eq_true,decide_eq_true_eq,beq_iff_eq,List.isEmpty_iff]at h
    obtain ⟨⟨⟨⟨⟨⟨hd,Vw,GU⟩,hn⟩,ht⟩,Hv⟩,Ke⟩,hx⟩:=h
    have hk:k=1∨k=2∨k=3∨k=4∨k=5∨k=6∨k=7:=by omega
    rcases hk with rfl|rfl|rfl|rfl|rfl|rfl|rfl
    · simp at hn ht Hv Ke
      obtain ⟨rfl,rfl⟩:=hn
      subst ht Hv Ke
      exact .name 1 d hd (by omega)
    · simp at hn ht Hv Ke
      obtain ⟨rfl,rfl⟩:=hn
      subst ht Hv Ke
      exact .name 2 d hd (by omega)
    · simp at hn ht Hv Ke
      obtain ⟨rfl,rfl⟩:=hn
      subst ht Hv Ke
      exact .name 3 d hd (by omega)
    · simp at ht Hv Ke hx
      subst ht Hv Ke
      exact .num _ d hd (IM.1 hx)
    · simp at hn Hv Ke hx
      obtain ⟨rfl,rfl⟩:=hn
      subst Hv Ke
      exact .text t d hd hx
    · simp at hn ht Hv hx
      obtain ⟨rfl,rfl⟩:=hn
      subst ht Hv
      exact .arr is d hd hx
    · simp at hn ht hx
      obtain ⟨rfl,rfl⟩:=hn
      subst ht
      exact .obj ns is d hd hx.1.1 hx.1.2 hx.2
  · intro h
    cases h with
    | name _ _ hd hk=>rcases hk with rfl|rfl|rfl <;> simp[gB,jj,hd]
    | num _ _ hd hn=>simp[gB,hd,IM.2 hn]
    | text _ _ hd ht=>simp[gB,hd,ht]
    | arr _ _ hd hi=>simp[gB,hd,hi]
    | obj _ _ _ hd hl hu hi=>simp[gB,hd,hl,hu,hi]

def RI (t:aj):aj:=34::(t.flatMap qb ++ [34])
theorem K6 {rs:List Nat} (hr:∀c∈rs,vr c):RI (cT rs)=qt rs:=by unfold RI qt; rw[Uz rs hr]

mutual
def oe:Json→aj
  | ⟨k,n,t,ns,is⟩=>if k=1 then oZ else if k=2 then ll else if k=3 then sc else if k=4 then B7 n else if k=5 then RI t else if k=7 then 123::(oB ns is true ++ [125])else 91::(pn is true ++ [93])
def pn:List Json→Bool→aj
  | [],_ => []
  | x::l,first=>(if first then []else [44])++(oe x++pn l false)
def oB:List aj→List Json→Bool→aj
  | _, [],_ => []
  | ns,x::l,first=>(if first then []else [44])++(RI (ns.headD [])++(58::(oe x++oB ns.tail l false)))
end

def Wp (t:aj):sT:=([],RI t,⟨2,t,⟨0,0⟩,0⟩)
mutual
def rS:Json→List sT
  | ⟨k,n,t,ns,is⟩=>if k=1 then [([],oZ,⟨4,oZ,⟨0,0⟩,0⟩)]else if k=2 then [([],ll,⟨4,ll,⟨0,0⟩,0⟩)]else if k=3 then [([],sc,⟨4,sc,⟨0,0⟩,0⟩)]
      else if k=4 then [([],B7 n,⟨3,B7 n,n,0⟩)]else if k=5 then [Wp t]else if k=7 then sg 123::(po ns is true ++ [sg 125])else sg 91::(sU is true ++ [sg 93])
def sU:List Json→Bool→List sT
  | [],_ => []
  | x::l,first=>(if first then []else [sg 44])++(rS x++sU l false)
def po:List aj→List Json→Bool→List sT
  | _, [],_ => []
  | ns,x::l,first=>(if first then []else [sg 44])++(Wp (ns.headD [])::sg 58::(rS x++po ns.tail l false))
end

mutual
theorem FX:∀(v:Json) (z:aj),qO (rS v) z=oe v++z
  | ⟨k,n,t,ns,is⟩,z=>by
    have hL:=MN is true
    have hO:=MO ns is true
    simp only[rS,oe]
    split
    · simp[qO]
    split
    · simp[qO]
    split
    · simp[qO]
    split
    · simp[qO]
    split
    · simp[qO,Wp]
    split
    · simp only[qO,sg,zA,hO]; simp[qO,sg]
    · simp only[qO,sg,zA,hL]; simp[qO,sg]
theorem MN:∀(l:List Json) (first:Bool) (z:aj),qO (sU l first) z=pn l first++z
  | [],_,z=>rfl
  | x::l,first,z=>by
    have h1:=FX x
    have h2:=MN l false
    simp only[sU,pn]
    rw[zA,zA,h1,h2]
    cases first <;> simp[qO,sg]
theorem MO:∀(ns:List aj) (l:List Json) (first:Bool) (z:aj),qO (po ns l first) z=oB ns l first++z
  | ns, [],_,z=>by simp[po,oB,qO]
  | ns,x::l,first,z=>by
    have h1:=FX x
    have h2:=MO ns.tail l false
    simp only[po,oB]
    rw[zA]
    simp only[qO,Wp,sg,zA,h1,h2]
    cases first <;> simp[qO,sg]
end

theorem RJ {t:aj} (ht:jt t=true) (z:aj):okW [Wp t] z:=by
  obtain ⟨rs,hr,rfl⟩:=C8.1 ht
  have e:=K6 hr
  have hw:=Wn hr
  refine ⟨by simp[Wp],by simp only[Wp,e]; exact hw.1,?_,trivial⟩
  show tokS (RI (cT rs)++z)=some (⟨2,cT rs,⟨0,0⟩,0⟩,z)
  have e2:qt rs=34::(IG rs ++ [34]):=by unfold qt; simp
  have hu:=Zf rs hr z
  have e3:qt rs++z=34::(IG rs ++ [34]++z):=by rw[e2]; rfl
  rw[e,e3]
  rw[e3]at hu
  simp only[tokS]
  rw[if_neg (by decide),if_pos (by decide),hu]

mutual
theorem IN:∀(v:Json) (d:Int),gB v d=true→∀z,Kd z→okW (rS v) z
  | ⟨k,n,t,ns,is⟩,d,h,z,hz=>by
    have hL:=OK is
    have hO:=OL ns is
    cases pk.1 h with
    | name _ _ hd hk =>
      rcases hk with rfl|rfl|rfl
      · exact IL (JM (.inr (.inr rfl))) hz
      · exact IL (JM (.inr (.inl rfl))) hz
      · exact IL (JM (.inl rfl)) hz
    | num _ _ hd hn =>
      have e:B7 n=NL n:=by unfold B7; rw[IM.2 hn]; rfl
      show okW [([],B7 n,⟨3,B7 n,n,0⟩)] z
      rw[e]
      exact IL (ZB hn) hz
    | text _ _ hd ht=>exact RJ ht z
    | arr _ _ hd hi =>
      show okW ([sg 91]++(sU is true ++ [sg 93])) z
      rw[xi,xi]
      exact ⟨BK (by decide) _,hL true (d+1) hi _ (FW (by decide) _),BK (by decide) _⟩
    | obj _ _ _ hd hl hu hi =>
      show okW ([sg 123]++(po ns is true ++ [sg 125])) z
      rw[xi,xi]
      exact ⟨BK (by decide) _,hO true (d+1) hi hl [] hu _ (FW (by decide) _),BK (by decide) _⟩
theorem OK:∀(l:List Json) (first:Bool) (d:Int),jj l d=true→∀z,Kd z→okW (sU l first) z
  | [],_,_,_,_,_=>trivial
  | x::l,first,d,h,z,hz=>by
    simp only[jj,Bool.and_eq_true]at h
    have h1:=IN x d h.1
    have h2:=OK l false d h.2 z hz
    simp only[sU]
    rw[xi,xi]
    refine ⟨?_,h1 _ ?_,h2⟩
    · cases first
      · exact BK (by decide) _
      · trivial
    · cases l with
      | nil=>exact hz
      | cons y l =>
        simp only[sU]
        exact FW (c:=44) (by decide) _
theorem OL:∀(ns:List aj) (l:List Json) (first:Bool) (d:Int),jj l d=true→ns.length=l.length→∀seen,vU seen ns=true→∀z,Kd z→okW (po ns l first) z
  | ns, [],_,_,_,_,_,_,_,_=>by simp[po,okW]
  | [],_::_,_,_,_,hl,_,_,_,_=>by simp at hl
  | n::ns,x::l,first,d,h,hl,seen,hu,z,hz=>by
    simp only[jj,Bool.and_eq_true]at h
    simp only[vU,Bool.and_eq_true]at hu
    have h1:=IN x d h.1
    have h2:=OL ns l false d h.2 (by simpa using hl) _ hu.2 z hz
    simp only[po,List.headD_cons,List.tail_cons]
    show okW ((if first=true then []else [sg 44])++([Wp n]++([sg 58]++(rS x++po ns l false)))) z
    rw[xi,xi,xi,xi]
    refine ⟨?_,RJ hu.1.2 _,BK (by decide) _,h1 _ ?_,h2⟩
    · cases first
      · exact BK (by decide) _
      · trivial
    · cases l with
      | nil=>simp only[po,qO]; exact hz
      | cons y l =>
        simp only[po]
        exact FW (c:=44) (by decide) _
end

mutual
def KI:Json→Bool
  | ⟨_,_,t,ns,is⟩=>decide (ns.length≤1099511627776)&&decide (is.length≤1099511627776)&&NS is&&(decide (t.length≤10000000000)&&ns.all fun n=>decide (n.length≤10000000000))
def NS:List Json→Bool
  | []=>true
  | x::l=>KI x&&NS l
end
theorem FA:∀ {l:List Json} {x:Json},NS l=true→x∈l→KI x=true
  | y::l,x,h,hx=>by
    simp only[NS,Bool.and_eq_true]at h
    rcases List.mem_cons.1 hx with rfl|hx
    · exact h.1
    · exact FA h.2 hx
theorem BL {v:Json}:KI v=true↔v.names.length≤1099511627776∧v.items.length≤1099511627776∧NS v.items=true∧v.text.length≤10000000000∧∀n∈v.names,n.length≤10000000000:=by
  obtain ⟨k,n,t,ns,is⟩:=v
  simp[KI,and_assoc]

theorem Dp (a b:aj):xL .str a b=(a==b):=rfl
def UD (m:List (aj × Bool)) (n:aj):Bool:=nA .str .bool n m
theorem ZC (m:List (aj × Bool)) (a b:aj):UD (wy .str .bool a true m) b=((b==a)||UD m b):=by
  induction m with
  | nil =>
    show (bif xL .str b a then true else false)=_
    rw[Dp]
    cases b==a <;> rfl
  | cons e m ih =>
    unfold UD at ih ⊢
    show nA .str .bool b (bif xL .str a e.1 then (a,true)::m else e::wy .str .bool a true m)=((b==a)||(bif xL .str b e.1 then e.2 else nA .str .bool b m))
    rw[Dp,Dp]
    by_cases h1:a=e.1
    · have h1':(a==e.1)=true:=by simpa using h1
      rw[h1',cond_true]
      show (bif xL .str b a then true else nA .str .bool b m)=_
      rw[Dp,←h1]
      cases b==a <;> rfl
    · have h1':(a==e.1)=false:=by simpa using h1
      rw[h1',cond_false]
      show (bif xL .str b e.1 then e.2 else nA .str .bool b (wy .str .bool a true m))=_
      rw[Dp,ih]
      by_cases h2:b=a
      · have h3:(b==e.1)=false:=by rw[h2]; exact h1'
        rw[h3]
        rfl
      · have h3:(b==a)=false:=by simpa using h2
        rw[h3]
        rfl

theorem RL {R:Type} (ns:List aj) (hl:ns.length≤1099511627776) (k:Bool→Option R):∀(F i:Nat) (m:List (aj × Bool)) (seen:List aj),i≤ns.length→ns.length - i<F→(∀n,UD m n=seen.contains n) →
    cy F ns (ns.length:Int) (i:Int) m (k true) k=k (vU seen (ns.drop i)):=by
  intro F
  induction F with
  | zero=>intro i m seen _ h; omega
  | succ F ih =>
    intro i m seen hi hF hm
    show rZ br (fun x0 x1 x2 x3=>cy F x0 x1 x2 x3 (k true) k) ns (ns.length:Int) (i:Int) m (k true) k=_
    unfold rZ
    by_cases h:i<ns.length
    · have h1:decide ((i:Int)<(ns.length:Int))=true:=by simp; omega
      have h2:(decide ((0:Int)≤(i:Int))&&true)=true:=by simp
      have hw:IntKind.i64.wrap ((i:Int)+1)=((i+1:Nat):Int):=by rw[dD (by omega) (by omega)]; omega
      have hg:ns.getD (i:Int).toNat (Ty.cn .str)=ns[i]:=getD_at h _
      have hsn:nA .str .bool ns[i] m=seen.contains ns[i]:=hm ns[i]
      rw[h1,cond_true,aT h2,hg,hsn,hw,Ry,List.drop_eq_getElem_cons h]
      simp only[vU]
      cases seen.contains ns[i]with
      | true=>rfl
      | false =>
        cases jt ns[i]with
        | false=>rfl
        | true =>
          simp only[cond_false,Bool.not_true,Bool.not_false,Bool.true_and]
          refine ih (i+1) _ (ns[i]::seen) (by omega) (by omega) fun n => ?_
          rw[ZC,hm]
          simp only[List.contains_cons]
    · have h1:decide ((i:Int)<(ns.length:Int))=false:=by simp; omega
      rw[h1,cond_false,List.drop_eq_nil_of_le (by omega)]
      rfl

theorem Tz {R:Type} (ns:List aj) (hl:ns.length≤1099511627776) (k:Bool→Option R):iG ns k=k (vU [] ns):=by
  have:=RL ns hl k (List.length ns+Int.natAbs (ns.length:Int)+Int.natAbs 0+List.length ([]:List (aj × Bool))+64) 0 [] [] (by omega) (by omega) fun n=>rfl
  rw[List.drop_zero]at this
  exact this

theorem RM {R:Type} (f:bQ R) (is:List Json) (hl:is.length≤1099511627776) (d:Int) (hd:0≤d∧d≤16) (hf:∀x∈is,∀k:Bool→Option R,f x (d+1) k=k (gB x (d+1))) (k:Bool→Int→Option R):∀(F i:Nat),i≤is.length→is.length - i<F →
    aM f F is (is.length:Int) (i:Int) d (fun y=>k (decide ((-1:Int)≥0)) y) (fun x y=>k (decide (x≥0)) y)=k (!jj (is.drop i) (d+1)) d:=by
  intro F
  induction F with
  | zero=>intro i _ h; omega
  | succ F ih =>
    intro i hi hF
    show gd (cf f) (fun x0 x1 x2 x3=>aM f F x0 x1 x2 x3 _ _) is (is.length:Int) (i:Int) d _ _=_
    unfold gd
    by_cases h:i<is.length
    · have h1:decide ((i:Int)<(is.length:Int))=true:=by simp; omega
      have h2:(decide ((0:Int)≤(i:Int))&&true)=true:=by simp
      have hw:IntKind.i64.wrap ((i:Int)+1)=((i+1:Nat):Int):=by rw[dD (by omega) (by omega)]; omega
      have hwd:IntKind.i64.wrap (d+1)=d+1:=dD (by omega) (by omega)
      have hg:is.getD (i:Int).toNat (Ty.cn .json)=is[i]:=getD_at h _
      have hj:(decide ((i:Int)≥0))=true:=by simp
      have he:∀(x:Json) (q:Bool→Int→Option R),cf f x d q=f x (IntKind.i64.wrap (d+1)) fun y=>q (!y) d:=fun x q=>by
        show pP f x d q=_
        unfold pP
        simp only[Json.eta]
      rw[h1,cond_true,aT h2,hg,Json.eta,he,hwd,hf _ (List.getElem_mem h),List.drop_eq_getElem_cons h]
      simp only[jj]
      cases gB is[i] (d+1)with
      | false=>simp only[Bool.not_false,cond_true,Bool.false_and,hj]
      | true =>
        simp only[Bool.not_true,cond_false,Bool.true_and]
        rw[hw]
        exact ih (i+1) (by omega) (by omega)
    · have h1:decide ((i:Int)<(is.length:Int))=false:=by simp; omega
      rw[h1,cond_false,List.drop_eq_nil_of_le (by omega)]
      rfl

theorem PZ {R:Type} (f:bQ R) (is:List Json) (hl:is.length≤1099511627776) (d:Int) (hd:0≤d∧d≤16) (hf:∀x∈is,∀k:Bool→Option R,f x (d+1) k=k (gB x (d+1))) (k:Bool→Int→Option R) :
    aP f is d k=k (!jj is (d+1)) d:=by
  have:=RM f is hl d hd hf k (List.length is+Int.natAbs (is.length:Int)+Int.natAbs 0+Int.natAbs d+64) 0 (by omega) (by omega)
  rw[List.drop_zero]at this
  exact this

theorem RN {l:List Json} {y:Json} (h:y∈l):y.depth≤Json.By l:=by
  induction l with
  | nil=>cases h
  | cons a l ih =>
    simp only[Json.By]
    rcases List.mem_cons.1 h with rfl|h
    · exact Nat.le_max_left _ _
    · exact Nat.le_trans (ih h) (Nat.le_max_right _ _)
theorem Wq (x:Json):x.depth=Json.By x.items+1:=by cases x; simp[Json.depth]
theorem FB {x y:Json} (h:y∈x.items):y.depth<x.depth:=by rw[Wq x]; exact Nat.lt_succ_of_le (RN h)

theorem bare_eq {R:Type} (k n1 n2:Int) (t:aj) (ns:List aj) (is:List Json) (q:Json→Option R):mV ⟨k,⟨n1,n2⟩,t,ns,is⟩ q =
    q ⟨k,if k=4 then ⟨0,0⟩else ⟨n1,n2⟩,if k=5 then []else t,if k=7 then []else ns,if k=6∨k=7 then []else is⟩:=by
  show Ct _ q=_
  unfold Ct
  simp only
  by_cases h4:k=4
  · subst h4; rfl
  by_cases h5:k=5
  · subst h5; rfl
  by_cases h7:k=7
  · subst h7; rfl
  by_cases h6:k=6
  · subst h6; rfl
  have e4:(k==4)=false:=by simpa using h4
  have e5:(k==5)=false:=by simpa using h5
  have e6:(k==6)=false:=by simpa using h6
  have e7:(k==7)=false:=by simpa using h7
  rw[e4,e5,e6,e7]
  simp[h4,h5,h6,h7]

theorem chain {R:Type} (k:Bool→Option R) {a b c:Bool} {x:Option R} {r:Bool} (hx:a=true→b=true→c=false→x=k r) (hr:(a=true∧b=true∧c=false)∨r=false) :
    (bif !a then k false else (bif !b then k false else (bif c then k false else x)))=k r:=by
  cases a with
  | false =>
    rcases hr with ⟨h,_⟩|rfl
    · cases h
    · rfl
  | true =>
    cases b with
    | false =>
      rcases hr with ⟨_,h,_⟩|rfl
      · cases h
      · rfl
    | true =>
      cases c with
      | true =>
        rcases hr with ⟨_,_,h⟩|rfl
        · cases h
        · rfl
      | false=>exact hx rfl rfl rfl

theorem right_N {R:Type}:∀(n:Nat) (v:Json) (d:Int),KI v=true→v.depth<n→0≤d→d≤17→∀k:Bool→Option R,eU n v d k=k (gB v d):=by
  intro n
  induction n with
  | zero=>intro v d _ h; omega
  | succ n ih =>
    intro v d hv hn hd0 hd1 k
    obtain ⟨Hv,Ke,Vp,_⟩:=BL.1 hv
    have he:eU (n+1) v d k=AK br cd mV iG (aP (eU n)) v d k:=rfl
    rw[he]
    have hcf:d≤16→∀q:Bool→Int→Option R,aP (eU n) v.items d q=q (!jj v.items (d+1)) d:=fun RO q =>
      PZ _ _ Ke d ⟨hd0,RO⟩ (fun x hx k=>ih x (d+1) (FA Vp hx) (by have:=FB hx; omega) (by omega) (by omega) k) q
    obtain ⟨kd,⟨n1,n2⟩,t,ns,is⟩:=v
    unfold AK
    simp only at Hv Ke hcf ⊢
    rw[bare_eq]
    simp only
    by_cases RO:d≤16
    rotate_left
    · have e1:decide (d>16)=true:=by simp; omega
      rw[e1,cond_true]
      simp[gB,RO]
    have e1:decide (d>16)=false:=by simp; omega
    rw[e1,cond_false]
    by_cases Vw:kd<1
    · have e2:decide (kd<1)=true:=by simpa using Vw
      have:¬1≤kd:=by omega
      rw[e2,cond_true]
      simp[gB,this]
    have e2:decide (kd<1)=false:=by simpa using Vw
    rw[e2,cond_false]
    by_cases hk7:kd>7
    · have e3:decide (kd>7)=true:=by simpa using hk7
      have:¬kd≤7:=by omega
      rw[e3,cond_true]
      simp[gB,this]
    have e3:decide (kd>7)=false:=by simpa using hk7
    rw[e3,cond_false]
    have hk:kd=1∨kd=2∨kd=3∨kd=4∨kd=5∨kd=6∨kd=7:=by omega
    have TA:∀a b:Nat,a≤1099511627776→b≤1099511627776→decide (IntKind.i64.wrap ((a:Int)+(b:Int))>0) = !(a==0&&b==0):=by
      intro a b ha hb
      rw[dD (by omega) (by omega)]
      rw[Bool.eq_iff_iff,decide_eq_true_eq]
      simp only[Bool.not_eq_true',Bool.and_eq_false_iff,beq_eq_false_iff_ne]
      omega
    have hie:∀l:List aj,(l.length==0)=l.isEmpty:=fun l=>by cases l <;> rfl
    have hje:∀l:List Json,(l.length==0)=l.isEmpty:=fun l=>by cases l <;> rfl
    have Sy:∀l:aj,(l==([]:aj))=l.isEmpty:=fun l=>by cases l <;> rfl
    have xR:∀d:Int,jj [] d=true:=fun _=>rfl
    have Wr:∀a b:Int,((a==0)&&((b==0)&&true))=(a==0&&b==0):=fun a b=>by cases a==0 <;> cases b==0 <;> rfl
    have hcf0:∀q:Bool→Int→Option R,is.isEmpty=true→aP (eU n) is d q=q false d:=fun q h=>by
      rw[hcf RO]
      obtain rfl:is = []:=List.isEmpty_iff.1 h
      rfl
    have ZD:∀a b c:Bool,(a=true∧b=true∧(!c)=false)∨((a&&b)&&c)=false:=by decide
    have hb4:∀b c q:Bool,(true=true∧b=true∧(!c)=false)∨((b&&c)&&q)=false:=by decide
    have hb5:∀a c q:Bool,(a=true∧true=true∧(!c)=false)∨((a&&c)&&q)=false:=by decide
    have hb6:∀a b c q:Bool,(a=true∧b=true∧(!c)=false)∨(((a&&b)&&c)&&q)=false:=by decide
    have hb7:∀a b q:Bool,(a=true∧b=true∧false=false)∨((a&&b)&&q)=false:=by decide
    rcases hk with rfl|rfl|rfl|rfl|rfl|rfl|rfl
    · have hr:gB ⟨1,⟨n1,n2⟩,t,ns,is⟩ d=(((n1==0&&n2==0)&&t.isEmpty)&&(ns.isEmpty&&is.isEmpty)):=by
        cases is <;> simp[gB,jj,RO]
      simp only[Int.reduceEq,if_false,or_self,Wr]
      rw[TA _ _ Hv Ke,hie,hje,Sy,hr]
      refine chain k (fun h1 h2 h3 => ?_) (ZD _ _ _)
      have h4:ns.isEmpty=true∧is.isEmpty=true:=by simpa using h3
      rw[h1,h2,h4.1,h4.2]
      show aP (eU n) is d (fun Ek Da=>k (!Ek))=k true
      exact hcf0 _ h4.2
    · have hr:gB ⟨2,⟨n1,n2⟩,t,ns,is⟩ d=(((n1==0&&n2==0)&&t.isEmpty)&&(ns.isEmpty&&is.isEmpty)):=by
        cases is <;> simp[gB,jj,RO]
      simp only[Int.reduceEq,if_false,or_self,Wr]
      rw[TA _ _ Hv Ke,hie,hje,Sy,hr]
      refine chain k (fun h1 h2 h3 => ?_) (ZD _ _ _)
      have h4:ns.isEmpty=true∧is.isEmpty=true:=by simpa using h3
      rw[h1,h2,h4.1,h4.2]
      show aP (eU n) is d (fun Ek Da=>k (!Ek))=k true
      exact hcf0 _ h4.2
    · have hr:gB ⟨3,⟨n1,n2⟩,t,ns,is⟩ d=(((n1==0&&n2==0)&&t.isEmpty)&&(ns.isEmpty&&is.isEmpty)):=by
        cases is <;> simp[gB,jj,RO]
      simp only[Int.reduceEq,if_false,or_self,Wr]
      rw[TA _ _ Hv Ke,hie,hje,Sy,hr]
      refine chain k (fun h1 h2 h3 => ?_) (ZD _ _ _)
      have h4:ns.isEmpty=true∧is.isEmpty=true:=by simpa using h3
      rw[h1,h2,h4.1,h4.2]
      show aP (eU n) is d (fun Ek Da=>k (!Ek))=k true
      exact hcf0 _ h4.2
    · have hr:gB ⟨4,⟨n1,n2⟩,t,ns,is⟩ d=((t.isEmpty&&(ns.isEmpty&&is.isEmpty))&&fmB ⟨n1,n2⟩):=by
        simp[gB,RO,Bool.and_assoc]
      simp only[Int.reduceEq,if_false,if_true,or_self]
      rw[TA _ _ Hv Ke,hie,hje,Sy,hr]
      refine chain k (a:=true) (b:=t.isEmpty) (c := !(ns.isEmpty&&is.isEmpty)) (fun h1 h2 h3 => ?_) (hb4 _ _ _)
      have h4:ns.isEmpty=true∧is.isEmpty=true:=by simpa using h3
      rw[h2,h4.1,h4.2]
      exact OI _ _
    · have hr:gB ⟨5,⟨n1,n2⟩,t,ns,is⟩ d=(((n1==0&&n2==0)&&(ns.isEmpty&&is.isEmpty))&&jt t):=by
        simp[gB,RO,Bool.and_assoc]
      simp only[Int.reduceEq,if_false,if_true,or_self,Wr]
      rw[TA _ _ Hv Ke,hie,hje,hr]
      refine chain k (a:=(n1==0&&n2==0)) (b:=true) (c := !(ns.isEmpty&&is.isEmpty)) (fun h1 h2 h3 => ?_) (hb5 _ _ _)
      have h4:ns.isEmpty=true∧is.isEmpty=true:=by simpa using h3
      rw[h1,h4.1,h4.2]
      exact Ry _ _
    · have hr:gB ⟨6,⟨n1,n2⟩,t,ns,is⟩ d=((((n1==0&&n2==0)&&t.isEmpty)&&ns.isEmpty)&&jj is (d+1)):=by
        simp[gB,RO,Bool.and_assoc]
      simp only[Int.reduceEq,if_false,if_true,true_or,Wr]
      have UA:=TA ns.length 0 Hv (by omega)
      have hq:((0:Nat)==0)=true:=rfl
      rw[hq,Bool.and_true,hie]at UA
      rw[List.length_nil,UA,Sy,hr]
      refine chain k (a:=(n1==0&&n2==0)) (b:=t.isEmpty) (c := !ns.isEmpty) (fun h1 h2 h3 => ?_) (hb6 _ _ _ _)
      have h4:ns.isEmpty=true:=by simpa using h3
      rw[h1,h2,h4]
      show aP (eU n) is d (fun Ek Da=>k (!Ek))=k (jj is (d+1))
      rw[hcf RO,Bool.not_not]
    · have hr:gB ⟨7,⟨n1,n2⟩,t,ns,is⟩ d=(((n1==0&&n2==0)&&t.isEmpty)&&(decide (ns.length=is.length)&&vU [] ns&&jj is (d+1))):=by
        simp[gB,RO,Bool.and_assoc]
      simp only[Int.reduceEq,if_false,if_true,or_true,Wr]
      have UA:=TA 0 0 (by omega) (by omega)
      rw[List.length_nil,List.length_nil,UA,Sy,hr]
      refine chain k (a:=(n1==0&&n2==0)) (b:=t.isEmpty) (c:=false) (fun h1 h2 h3 => ?_) (hb7 _ _ _)
      rw[h1,h2]
      show (bif ((ns.length:Int) != (is.length:Int))then k false else iG ns (fun y7=>bif !y7 then k false else aP (eU n) is d (fun wc zO=>k (!wc))))=_
      by_cases hl:ns.length=is.length
      · have e9:((ns.length:Int) != (is.length:Int))=false:=by rw[hl]; simp
        rw[e9,cond_false,Tz ns Hv,hcf RO,Bool.not_not]
        cases vU [] ns <;> simp[hl]
      · have e9:((ns.length:Int) != (is.length:Int))=true:=by simp; omega
        rw[e9,cond_true]
        simp[hl]

theorem MP {R:Type} (v:Json) (hv:KI v=true) (k:Bool→Option R):cG v k=k (gB v 1):=by
  have e:cG v k=AM la v k:=rfl
  rw[e]
  unfold AM
  simp only[Json.eta]
  exact right_N (v.depth+2) v 1 hv (by omega) (by omega) (by omega) k

theorem Dq (p:UInt8→Bool) (s:aj):(s.takeWhile p).length+(s.dropWhile p).length=s.length:=by
  have:=congrArg List.length (List.takeWhile_append_dropWhile (p:=p) (l:=s))
  rwa [List.length_append]at this
theorem take_tw (p:UInt8→Bool) (s:aj):s.take (s.takeWhile p).length=s.takeWhile p:=by
  have:=List.take_left (l₁:=s.takeWhile p) (l₂:=s.dropWhile p)
  rwa [List.takeWhile_append_dropWhile]at this
theorem drop_tw (p:UInt8→Bool) (s:aj):s.drop (s.takeWhile p).length=s.dropWhile p:=by
  have:=List.drop_left (l₁:=s.takeWhile p) (l₂:=s.dropWhile p)
  rwa [List.takeWhile_append_dropWhile]at this

theorem MQ {R:Type} (s cs:aj) (hs:s.length≤4000000000) (h1:tI cs=true) (h2:cs.length<4294967281) (k:aj→Option R):bX s cs k=k (s.takeWhile (cs.contains ·)):=by
  have e:bX s cs k=yW s cs k:=rfl
  rw[e]
  unfold yW
  have hl:=Dq (cs.contains ·) s
  have ht:(bE s cs).length=(s.dropWhile (cs.contains ·)).length:=rfl
  have hw:IntKind.i64.wrap ((s.length:Int) - ((bE s cs).length:Int))=((s.takeWhile (cs.contains ·)).length:Int):=by rw[ht,dD (by omega) (by omega)]; omega
  rw[hw,h1,aT (by rw[bq h2]; rfl),aT (by rw[bq (by omega),bq (by omega)]; rfl),aT (bq (by omega)),List.drop_zero,Nat.sub_zero,Int.toNat_natCast,take_tw]

theorem ZE (c:UInt8):decide (yL Tv (c.toNat:Int)≥0)=IK c:=by
  have hi:yL Tv (c.toNat:Int)=Go.Lib.indexByte Tv c:=by
    unfold yL
    rw[Int.toNat_natCast]
    simp
  have h:=K5 c Tv
  rw[hi]
  unfold IK
  cases hc:Tv.contains c with
  | true =>
    apply bq
    have:¬Go.Lib.indexByte Tv c<0:=fun g=>by rw[h.1 g]at hc; cases hc
    omega
  | false =>
    apply cY
    have:=h.2 hc
    omega

theorem next_ok {R:Type} (s:aj) (hs:s.length≤4000000000) (h0:s ≠ []) (k:Token→Int→Option R) :
    fi s k=match tokS s with|some (t,r)=>k t ((s.length - r.length:Nat):Int)|none=>k ⟨0, [],⟨0,0⟩,0⟩ 0:=by
  have e:fi s k=A0 eJ dz bX s k:=rfl
  rw[e]
  unfold A0
  cases s with
  | nil=>exact (h0 rfl).elim
  | cons c u =>
    have hlen:(c::u:aj).length=u.length+1:=rfl
    have hg:(c::u:aj).getD 0 0=c:=rfl
    simp only[List.length_cons]at hs
    rw[hg,aT (bq (by rw[hlen]; omega))]
    simp only
    have q45:((c.toNat:Int)==45)=decide (c.toNat=45):=eqI _ 45
    have q34:((c.toNat:Int)==34)=decide (c.toNat=34):=eqI _ 34
    have l48:decide ((c.toNat:Int)≥48)=decide (48≤c.toNat):=by
      by_cases h:48≤c.toNat
      · rw[bq h,bq (by omega)]
      · rw[cY h,cY (by omega)]
    have l57:decide ((c.toNat:Int)≤57)=decide (c.toNat≤57):=by
      by_cases h:c.toNat≤57
      · rw[bq h,bq (by omega)]
      · rw[cY h,cY (by omega)]
    have hsg:decide (yL ([123,125,91,93,44,58]:aj) (c.toNat:Int)≥0)=IK c:=ZE c
    have kY:∀p:UInt8→Bool,((c::u).takeWhile p).length≤(c::u).length:=fun p=>by have:=Dq p (c::u); omega
    have num:∀k:Token→Int→Option R,bX (c::u) ([48,49,50,51,52,53,54,55,56,57,43,45,46,101,69]:aj) (fun y6=>dz y6 (fun y7 y8=>bif (!y8)then (k (⟨0,([]:aj),⟨0,0⟩,0⟩:Token) 0)else (k (⟨3,y6,⟨y7.aB,y7.exp⟩,0⟩:Token) (y6.length:Int)))) =
        (if (BJ ((c::u).takeWhile zY)).2 then k ⟨3,(c::u).takeWhile zY,(BJ ((c::u).takeWhile zY)).1,0⟩ (((c::u).length - ((c::u).dropWhile zY).length:Nat):Int)else k ⟨0, [],⟨0,0⟩,0⟩ 0):=fun k=>by
      rw[MQ _ _ (by rw[hlen]; omega) rfl (by decide)]
      have e:(c::u).takeWhile (fun x=>List.contains [48,49,50,51,52,53,54,55,56,57,43,45,46,101,69] x)=(c::u).takeWhile zY:=rfl
      have hl:=kY zY
      have hd:=Dq zY (c::u)
      rw[e,OG _ (by omega)]
      have el:(c::u).length - ((c::u).dropWhile zY).length=((c::u).takeWhile zY).length:=by omega
      rw[el]
      cases (BJ ((c::u).takeWhile zY)).2 <;> rfl
    have txt:∀k:Token→Int→Option R,eJ (c::u) (fun F7 GB Kc=>bif (!Kc)then (k (⟨0,([]:aj),⟨0,0⟩,0⟩:Token) 0)else (k (⟨2,F7,⟨0,0⟩,0⟩:Token) GB)) =
        match Zd (c::u)with|some (o,r)=>k ⟨2,o,⟨0,0⟩,0⟩ (((c::u).length - r.length:Nat):Int)|none=>k ⟨0, [],⟨0,0⟩,0⟩ 0:=fun k=>by
      rw[Tq _ (by rw[hlen]; omega)]
      cases hu:Zd (c::u)with
      | none=>rfl
      | some p =>
        obtain ⟨o,r⟩:=p
        obtain ⟨_,hr,_⟩:=UC hu
        simp only[Bool.not_true,cond_false]
        rw[dD (by omega) (by omega)]
        congr 1
        omega
    have nam:∀k:Token→Int→Option R,bX (c::u) ([97,98,99,100,101,102,103,104,105,106,107,108,109,110,111,112,113,114,115,116,117,118,119,120,121,122]:aj) (fun BW=>bif (BW==([116,114,117,101]:aj))then (k (⟨4,BW,⟨0,0⟩,0⟩:Token) (BW.length:Int))else (bif (BW==([102,97,108,115,101]:aj))then (k (⟨4,BW,⟨0,0⟩,0⟩:Token) (BW.length:Int))else (bif (!(BW==([110,117,108,108]:aj)))then (k (⟨0,([]:aj),⟨0,0⟩,0⟩:Token) 0)else (k (⟨4,BW,⟨0,0⟩,0⟩:Token) (BW.length:Int))))) =
        (if (c::u).takeWhile zz=sc∨(c::u).takeWhile zz=ll∨(c::u).takeWhile zz=oZ then k ⟨4,(c::u).takeWhile zz,⟨0,0⟩,0⟩ (((c::u).length - ((c::u).dropWhile zz).length:Nat):Int)else k ⟨0, [],⟨0,0⟩,0⟩ 0):=fun k=>by
      rw[MQ _ _ (by rw[hlen]; omega) rfl (by decide)]
      have e:(c::u).takeWhile (fun x=>List.contains [97,98,99,100,101,102,103,104,105,106,107,108,109,110,111,112,113,114,115,116,117,118,119,120,121,122] x)=(c::u).takeWhile zz:=rfl
      have hd:=Dq zz (c::u)
      have el:(c::u).length - ((c::u).dropWhile zz).length=((c::u).takeWhile zz).length:=by omega
      rw[e,el]
      generalize (c::u).takeWhile zz=w
      have eq:∀a:aj,(w==a)=decide (w=a):=fun a=>by
        by_cases h:w=a
        · rw[bq h]; exact beq_iff_eq.2 h
        · rw[cY h]; exact beq_eq_false_iff_ne.2 h
      rw[eq,eq,eq]
      by_cases h1:w=sc
      · rw[bq (show w = [116,114,117,101]from h1),if_pos (.inl h1)]; rfl
      · by_cases h2:w=ll
        · rw[cY (show ¬w = [116,114,117,101]from h1),bq (show w = [102,97,108,115,101]from h2),if_pos (.inr (.inl h2))]; rfl
        · by_cases h3:w=oZ
          · rw[cY (show ¬w = [116,114,117,101]from h1),cY (show ¬w = [102,97,108,115,101]from h2),bq (show w = [110,117,108,108]from h3),if_pos (.inr (.inr h3))]; rfl
          · rw[cY (show ¬w = [116,114,117,101]from h1),cY (show ¬w = [102,97,108,115,101]from h2),cY (show ¬w = [110,117,108,108]from h3),if_neg (by rintro (h|h|h); exact h1 h; exact h2 h; exact h3 h)]; rfl
    have sgn1:∀k:Token→Int→Option R,cX (decide ((1:Int)≤((c::u:aj).length:Int))) (k (⟨1,(((c::u:aj).drop 0).take (1 - 0)),⟨0,0⟩,0⟩:Token) 1)=k ⟨1, [c],⟨0,0⟩,0⟩ (((c::u).length - u.length:Nat):Int):=fun k=>by
      have e1:(c::u).length - u.length=1:=by rw[hlen]; omega
      rw[aT (bq (by rw[hlen]; omega)),e1]
      rfl
    simp only[tokS]
    rw[q45,q34,l48,l57,hsg]
    by_cases h45:c.toNat=45
    · rw[bq h45,cond_true,if_pos (.inl h45)]
      refine (num k).trans ?_
      split <;> rfl
    · rw[cY h45,cond_false]
      have rest:¬(48≤c.toNat∧c.toNat≤57)→(bif decide (c.toNat=34)then eJ (c::u) (fun F7 GB Kc=>bif (!Kc)then (k (⟨0,([]:aj),⟨0,0⟩,0⟩:Token) 0)else (k (⟨2,F7,⟨0,0⟩,0⟩:Token) GB))else (bif IK c then cX (decide ((1:Int)≤((c::u:aj).length:Int))) (k (⟨1,(((c::u:aj).drop 0).take (1 - 0)),⟨0,0⟩,0⟩:Token) 1)else bX (c::u) ([97,98,99,100,101,102,103,104,105,106,107,108,109,110,111,112,113,114,115,116,117,118,119,120,121,122]:aj) (fun BW=>bif (BW==([116,114,117,101]:aj))then (k (⟨4,BW,⟨0,0⟩,0⟩:Token) (BW.length:Int))else (bif (BW==([102,97,108,115,101]:aj))then (k (⟨4,BW,⟨0,0⟩,0⟩:Token) (BW.length:Int))else (bif (!(BW==([110,117,108,108]:aj)))then (k (⟨0,([]:aj),⟨0,0⟩,0⟩:Token) 0)else (k (⟨4,BW,⟨0,0⟩,0⟩:Token) (BW.length:Int))))))) =
          match (if c.toNat=45∨(48≤c.toNat∧c.toNat≤57)then (if (BJ ((c::u).takeWhile zY)).2 then some (⟨3,(c::u).takeWhile zY,(BJ ((c::u).takeWhile zY)).1,0⟩,(c::u).dropWhile zY)else none)else if c.toNat=34 then (match Zd (c::u)with|some (o,r)=>some (⟨2,o,⟨0,0⟩,0⟩,r)|none=>none)else if IK c then some ((⟨1, [c],⟨0,0⟩,0⟩:Token),u)else if (c::u).takeWhile zz=sc∨(c::u).takeWhile zz=ll∨(c::u).takeWhile zz=oZ then some (⟨4,(c::u).takeWhile zz,⟨0,0⟩,0⟩,(c::u).dropWhile zz)else none)with
          | some (t,r)=>k t (((c::u).length - r.length:Nat):Int)|none=>k ⟨0, [],⟨0,0⟩,0⟩ 0:=by
        intro hd
        rw[if_neg (by rintro (h|h); exact h45 h; exact hd h)]
        by_cases GJ:c.toNat=34
        · rw[bq GJ,cond_true,if_pos GJ,txt]
          cases Zd (c::u)with
          | none=>rfl
          | some p=>rfl
        · rw[cY GJ,cond_false,if_neg GJ]
          cases hs':IK c with
          | true=>rw[cond_true,sgn1,if_pos rfl]
          | false =>
            rw[cond_false,nam,if_neg (show ¬(false=true) by simp)]
            split <;> rfl
      by_cases W0:48≤c.toNat
      · rw[bq W0,cond_true]
        by_cases h57:c.toNat≤57
        · rw[bq h57,cond_true,if_pos (.inr ⟨W0,h57⟩)]
          refine (num k).trans ?_
          split <;> rfl
        · rw[cY h57,cond_false]
          exact rest (fun h=>h57 h.2)
      · rw[cY W0,cond_false]
        exact rest (fun h=>W0 h.1)

theorem Ws {R:Type} (s:aj) (hs:s.length≤20000) (e0:List Token→Int→Int→Option R) (e1:Int→Int→Option R) (hz:∀a b,e0 [] a b=e1 a b):∀(n p:Nat) (out:List Token),s.length - p<n→p≤s.length→out.length≤p →
    cB n s out (p:Int) e0 e1=e0 (vT n p (s.drop p) out).1 (vT n p (s.drop p) out).2.1 (vT n p (s.drop p) out).2.2:=by
  intro n
  induction n with
  | zero=>intro p out h; omega
  | succ n ih =>
    intro p out h1 h2 h3
    rw[cB]
    unfold yr
    have hsub:∀q:Nat,(s.drop q).take ((s.length:Int).toNat - q)=s.drop q:=fun q=>List.take_of_length_le (by rw[List.length_drop,Int.toNat_natCast]; exact Nat.le_refl _)
    have hl:=Dq rE (s.drop p)
    rw[List.length_drop]at hl
    have hdl:(s.drop p).length=s.length - p:=List.length_drop
    rw[aT (by rw[bq (by omega),bq (by omega)]; rfl),aT (by rw[bq (by omega),bq (by omega)]; rfl),Int.toNat_natCast p,hsub,MQ _ _ (by omega) rfl (by decide)]
    have eb:(s.drop p).takeWhile (fun x=>List.contains [32,9,10,13] x)=(s.drop p).takeWhile rE:=rfl
    rw[eb]
    have hdd:s.drop (p+((s.drop p).takeWhile rE).length)=(s.drop p).dropWhile rE:=by rw[←drop_tw rE (s.drop p),List.drop_drop]
    have hw:IntKind.i64.wrap ((p:Int)+(((s.drop p).takeWhile rE).length:Int))=((p+((s.drop p).takeWhile rE).length:Nat):Int):=by rw[dD (by omega) (by omega)]; omega
    rw[hw]
    simp only[vT]
    generalize hq:p+((s.drop p).takeWhile rE).length=q at *
    by_cases ZF:(s.drop p).dropWhile rE = []
    · have hqe:q=s.length:=by rw[ZF]at hl; simp at hl; omega
      have T6:(((q:Nat):Int)==(s.length:Int))=true:=by rw[hqe]; simp
      rw[T6,cond_true,aT (bq (by omega)),if_pos ZF]
    · have HC:0<((s.drop p).dropWhile rE).length:=List.length_pos_iff.2 ZF
      have T6:(((q:Nat):Int)==(s.length:Int))=false:=by rw[beq_eq_false_iff_ne]; omega
      rw[T6,cond_false,aT (by rw[bq (by omega),bq (by omega)]; rfl),aT (by rw[bq (by omega),bq (by omega)]; rfl),Int.toNat_natCast q,hsub,hdd,next_ok _ (by omega) ZF,if_neg ZF]
      cases ht:tokS ((s.drop p).dropWhile rE)with
      | none =>
        have e0':((0:Int)==0)=true:=rfl
        simp only
        rw[e0',cond_true,hz]
      | some x =>
        obtain ⟨t,r⟩:=x
        obtain ⟨f1,f2⟩:=tokS_sfx ht
        have hn:((((s.drop p).dropWhile rE).length - r.length:Nat):Int)≠0:=by omega
        simp only
        rw[beq_eq_false_iff_ne.2 hn,cond_false,aT (bq (by omega))]
        have US:IntKind.i64.wrap (((q:Nat):Int)+((((s.drop p).dropWhile rE).length - r.length:Nat):Int))=((p+((s.drop p).length - r.length):Nat):Int):=by rw[dD (by omega) (by omega)]; omega
        rw[US]
        have hr:s.drop (p+((s.drop p).length - r.length))=r:=by
          have:=Zv (f1.trans (List.dropWhile_suffix rE))
          rw[←List.drop_drop,←this]
        have key:=ih (p+((s.drop p).length - r.length)) (out ++ [putT t ((q:Nat):Int)]) (by omega) (by omega) (by simp; omega)
        rw[hr]at key
        exact key

theorem scan_ok {R:Type} (s:aj) (k:List Token→Int→Int→Option R):kf s k=k (tM s).1 (tM s).2.1 (tM s).2.2:=by
  have e:kf s k=A3 cB s k:=rfl
  rw[e]
  unfold A3 tM
  by_cases h:20000<s.length
  · rw[bq (show (s.length:Int)>20000 by omega),cond_true,if_pos h]
  · rw[cY (show ¬(s.length:Int)>20000 by omega),cond_false,if_neg h]
    have key:=Ws (R:=R) s (by omega) (fun y8 y9 yf=>k y8 y9 yf) (fun wc zO=>k [] wc zO) (fun _ _=>rfl) (List.length s+List.length ([]:List Token)+Int.natAbs 0+64) 0 [] (by omega) (by omega) (by simp)
    rw[List.drop_zero,MJ _ (s.length+1) 0 s [] (by omega) (by omega)]at key
    exact key
end Go.Proofs.YtmlkkgfenfdndaaGreatDoor

/-
  Functions of the program as pure Lean functions, and the ties; printed by wip/tools/emit.py.
-/
set_option maxRecDepth 100000
namespace Go.Proofs.YtmlkkgfenfdndaaGreatDoor
open Go Go.ay

/-! ### (*humpyard/json.parser).fail -/
abbrev bW (R:Type):Type:=Int→(List Token)→Int→((List Token)→Int→Option R)→Option R
abbrev gi:List bP := [.leaf (.ptr 0 0), .leaf (.int .i64)]
abbrev gk:List aI := [.cells [.sl .token, .int .i64]]
noncomputable def jV {R:Type} (fn:bW R):bP.av gi→aI.av gk→(V→az→Option R)→Option R:=fun x y k=>fn x.2.1 y.1.1 y.1.2.1 (fun q0 q1=>k (.tuple []) [.cells [.sl .token q0 .no, .int .i64 q1]])
noncomputable def mZ (R:Type):Env R:=fun i=>match i with
  | _=>none
theorem B8 (R:Type):pK Tryz.prog (mZ R):=by
  intro i b sp h
  unfold mZ at h
  split at h
  · cases h

noncomputable def vV (R:Type):Nat→Option (Hint × cp R):=fun i=>match i with
  | _=>none

noncomputable def vW {R:Type} (x1:Int) (x2:List Token) (x3:Int) (k0:(List Token)→Int→Option R):Option R :=
  bif (x3==0)then (k0 x2 x1)else (k0 x2 x3)
noncomputable def ak {R:Type}:bW R:=fun x1 x2 x3 k0=>vW x1 x2 x3 k0
theorem CK {R:Type} (x1:Int) (x2:List Token) (x3:Int) (k:V→az→Option R):iE (tt.mode [.json]) (mZ R) (vV R) false Tryz.f43 (aL Tryz.f43) [.ptr 0 0, .int .i64 x1] [.cells [.sl .token x2 .no, .int .i64 x3]] k =
    vW x1 x2 x3 (fun q0 q1=>k (.tuple []) [.cells [.sl .token q0 .no, .int .i64 q1]]):=by kernel_rfl
theorem Ba (R:Type):∀a∈aQ (aL Tryz.f43),cO (tt.mode [.json]) (mZ R) (vV R) 1 a:=by
  refine bF 0 (by kernel_rfl) fun i hi => ?_
  omega
theorem ln (R:Type) (other:ay.Spec R) (ho:ay.Spec.Ok Tryz.prog 43 other):ay.Spec.Ok Tryz.prog 43 (aA gi gk (jV ak) other) :=
  bu ho (bj (TT.mode [.json]) mixed (B8 R) (keep:=false) rfl rfl rfl rfl 1 (Ba R)) fun (x:bP.av gi) (y:aI.av gk) k=>CK x.2.1 y.1.1 y.1.2.1 k

/-! ### (*humpyard/json.parser).sign -/
abbrev dk (R:Type):Type:=aj→(List Token)→Int→(Bool→(List Token)→Int→Option R)→Option R
abbrev kv:List bP := [.leaf (.ptr 0 0), .leaf (.str)]
abbrev kz:List aI := [.cells [.sl .token, .int .i64]]
noncomputable def pq {R:Type} (fn:dk R):bP.av kv→aI.av kz→(V→az→Option R)→Option R:=fun x y k=>fn x.2.1 y.1.1 y.1.2.1 (fun q0 q1 q2=>k (.bool q0) [.cells [.sl .token q1 .no, .int .i64 q2]])
noncomputable def na (R:Type):Env R:=fun i=>match i with
  | _=>none
theorem B9 (R:Type):pK Tryz.prog (na R):=by
  intro i b sp h
  unfold na at h
  split at h
  · cases h

noncomputable def vX (R:Type):Nat→Option (Hint × cp R):=fun i=>match i with
  | _=>none

noncomputable def vY {R:Type} (x1:aj) (x2:List Token) (x3:Int) (k0:Bool→(List Token)→Int→Option R):Option R :=
  cX (decide ((0:Int)<x2.length)) (bif (x3 != 0)then (k0 false x2 x3)else (bif ((x2.getD 0 (Ty.cn .token)).kind != 1)then (k0 false x2 x3)else (bif (!((x2.getD 0 (Ty.cn .token)).text==x1))then (k0 false x2 x3)else (cX (decide ((1:Int)≤x2.length)) (k0 true (x2.drop 1) x3)))))
noncomputable def aq {R:Type}:dk R:=fun x1 x2 x3 k0=>vY x1 x2 x3 k0
theorem CL {R:Type} (x1:aj) (x2:List Token) (x3:Int) (k:V→az→Option R):iE (tt.mode [.json]) (na R) (vX R) false Tryz.f122 (aL Tryz.f122) [.ptr 0 0, .str x1] [.cells [.sl .token x2 .no, .int .i64 x3]] k =
    vY x1 x2 x3 (fun q0 q1 q2=>k (.bool q0) [.cells [.sl .token q1 .no, .int .i64 q2]]):=by kernel_rfl
theorem Bb (R:Type):∀a∈aQ (aL Tryz.f122),cO (tt.mode [.json]) (na R) (vX R) 1 a:=by
  refine bF 0 (by kernel_rfl) fun i hi => ?_
  omega
theorem sV (R:Type) (other:ay.Spec R) (ho:ay.Spec.Ok Tryz.prog 122 other):ay.Spec.Ok Tryz.prog 122 (aA kv kz (pq aq) other) :=
  bu ho (bj (TT.mode [.json]) mixed (B9 R) (keep:=false) rfl rfl rfl rfl 1 (Bb R)) fun (x:bP.av kv) (y:aI.av kz) k=>CL x.2.1 y.1.1 y.1.2.1 k

/-! ### slices.Index[[]string,string] -/
abbrev gM (R:Type):Type:=(List aj)→aj→(Int→Option R)→Option R
abbrev kO:List bP := [.leaf (.sl .str), .leaf (.str)]
abbrev kP:List aI := []
noncomputable def rF {R:Type} (fn:gM R):bP.av kO→aI.av kP→(V→az→Option R)→Option R:=fun x y k=>fn x.1 x.2.1 (fun q0=>k (.int .i64 q0) [])
abbrev eG (R:Type):Type:=Nat→(List aj)→aj→Int→Int→(Option R)→(Int→Option R)→Option R
noncomputable def eV (R:Type):Env R:=fun i=>match i with
  | _=>none
theorem zB (R:Type):pK Tryz.prog (eV R):=by
  intro i b sp h
  unfold eV at h
  split at h
  · cases h

noncomputable def iz {R:Type} (fT:(List aj)→aj→Int→Int→Option R) (x3:List aj) (x4:aj) (x5:Int) (x6:Int) (e0:Option R) (e1:Int→Option R):Option R :=
  bif (decide (x6<x5))then (cX (decide ((0:Int)≤x6)&&decide (x6<x3.length)) (bif (x4==(x3.getD x6.toNat (Ty.cn .str)))then (e1 x6)else (fT x3 x4 x5 (IntKind.i64.wrap (x6+1)))))else (e0)
noncomputable def aX {R:Type}:eG R
  | 0,_,_,_,_,_,_=>none
  | n+1,l0,l7,nj,vj,e0,e1=>iz (fun l0 l7 nj vj=>aX n l0 l7 nj vj e0 e1) l0 l7 nj vj e0 e1
noncomputable def iA:Hint := { live := [0,1,7,8],own := [],rows := [],cells := [],drop := [],out := [4] }
abbrev dm:Type:=(List aj) × aj × Int × Int
noncomputable def gR:dm→St:=fun d=>⟨[.sl .str d.1 .no, .str d.2.1, .undef, .undef, .undef, .undef, .undef, .int .i64 d.2.2.1, .int .i64 d.2.2.2, .undef, .undef, .undef, .undef, .undef, .undef, .undef, .undef, .undef, .undef], []⟩
noncomputable def lp {R:Type} (K:Ex→St→Option R):Option R:=K (.exit 0) ⟨[.undef, .undef, .undef, .undef, .undef, .undef, .undef, .undef, .undef, .undef, .undef, .undef, .undef, .undef, .undef, .undef, .undef, .undef, .undef], []⟩
noncomputable def lq {R:Type} (K:Ex→St→Option R) (q0:Int):Option R:=K (.ret) ⟨[.undef, .undef, .undef, .undef, .int .i64 q0, .undef, .undef, .undef, .undef, .undef, .undef, .undef, .undef, .undef, .undef, .undef, .undef, .undef, .undef], []⟩
noncomputable def lP {R:Type} (K:Ex→St→Option R) (rc:dm→Option R) (d:dm):Option R:=iz (fun z0 z1 z2 z3=>rc (z0,z1,z2,z3)) d.1 d.2.1 d.2.2.1 d.2.2.2 (lp K) (lq K)
noncomputable def eQ {R:Type} (K:Ex→St→Option R) (n:Nat) (d:dm):Option R:=aX n d.1 d.2.1 d.2.2.1 d.2.2.2 (lp K) (lq K)
abbrev dn:List bP := [.leaf (.sl .str), .leaf (.str), .leaf (.undef), .leaf (.undef), .leaf (.undef), .leaf (.undef), .leaf (.undef), .leaf (.int .i64), .leaf (.int .i64), .leaf (.undef), .leaf (.undef), .leaf (.undef), .leaf (.undef), .leaf (.undef), .leaf (.undef), .leaf (.undef), .leaf (.undef), .leaf (.undef), .leaf (.undef)]
abbrev dp:List aI := []
noncomputable def lQ (x:bP.av dn) (y:aI.av dp):Nat:=(List.length x.1+List.length x.2.1+Int.natAbs x.2.2.2.2.2.2.2.1+Int.natAbs x.2.2.2.2.2.2.2.2.1+64)
noncomputable def lR (x:bP.av dn) (y:aI.av dp):dm:=(x.1,x.2.1,x.2.2.2.2.2.2.2.1,x.2.2.2.2.2.2.2.2.1)
noncomputable def lr {R:Type} (L:eG R):bP.av dn→aI.av dp→(Ex→St→Option R)→Option R:=fun x y K=>L (lQ x y) x.1 x.2.1 x.2.2.2.2.2.2.2.1 x.2.2.2.2.2.2.2.2.1 (lp K) (lq K)
noncomputable def ij (R:Type) (aX:eG R):Nat→Option (Hint × cp R):=fun i=>match i with
  | 2=>some (iA,(gE dn dp (lr aX) qB))
  | _=>none

theorem vI {R:Type} (aX:eG R) (K:Ex→St→Option R) (rc:St→Option R) (d:dm):roundOf tt (eV R) (ij R aX) 0 ((aQ (aL Tryz.f142)).getD 0 .skip) iA (gR d) rc K=lP K (fun d=>rc (gR d)) d:=by kernel_rfl
theorem uo {R:Type} (K:Ex→St→Option R) (n:Nat) (d:dm):eQ K (n+1) d=lP K (eQ K n) d:=by kernel_rfl
theorem ur {R:Type} (K:Ex→St→Option R) (d:dm):eQ K 0 d=none:=by kernel_rfl
theorem vJ (x:bP.av dn) (y:aI.av dp):(⟨bP.cT dn x,aI.cT dp y⟩:St)=gR (lR x y):=by kernel_rfl
theorem vK {R:Type} (x:bP.av dn) (y:aI.av dp) (K:Ex→St→Option R):lr (aX) x y K=eQ K (lQ x y) (lR x y):=by kernel_rfl
theorem xj {R:Type} (other:cp R) (ho:pG tt (eV R) (ij R aX) 0 ((aQ (aL Tryz.f142)).getD 0 .skip) iA other):pG tt (eV R) (ij R aX) 0 ((aQ (aL Tryz.f142)).getD 0 .skip) iA (gE dn dp (lr (aX)) other) :=
  gW (A:=eQ) ho (k9 gR (lP) (eQ) (ur) (vI aX) (uo)) lQ lR vJ (vK)

noncomputable def sd {R:Type} (aX:eG R) (x1:List aj) (x2:aj) (k0:Int→Option R):Option R :=
  aX (List.length x1+List.length x2+Int.natAbs (x1.length:Int)+Int.natAbs 0+64) x1 x2 (x1.length:Int) 0 (k0 (-1)) (fun y7=>k0 y7)
noncomputable def cS {R:Type}:gM R:=fun x1 x2 k0=>sd aX x1 x2 k0
theorem zZ {R:Type} (aX:eG R) (x1:List aj) (x2:aj) (k:V→az→Option R):iE tt (eV R) (ij R aX) false Tryz.f142 (aL Tryz.f142) [.sl .str x1 .no, .str x2] [] k =
    sd aX x1 x2 (fun q0=>k (.int .i64 q0) []):=by kernel_rfl
theorem xH (R:Type):∀a∈aQ (aL Tryz.f142),cO tt (eV R) (ij R aX) 0 a:=by
  refine bF 1 (by kernel_rfl) fun i hi => ?_
  match i,hi with
  | 0,_=>exact gb (by kernel_rfl) (xj _ jL)
  | n+1,hi=>omega
theorem yw (R:Type) (other:ay.Spec R) (ho:ay.Spec.Ok Tryz.prog 142 other):ay.Spec.Ok Tryz.prog 142 (aA kO kP (rF cS) other) :=
  bu ho (bj TT mixed (zB R) (keep:=false) rfl rfl rfl rfl 0 (xH R)) fun (x:bP.av kO) (y:aI.av kP) k=>zZ aX x.1 x.2.1 k

/-! ### slices.Contains[[]string,string] -/
abbrev fX (R:Type):Type:=(List aj)→aj→(Bool→Option R)→Option R
abbrev jk:List bP := [.leaf (.sl .str), .leaf (.str)]
abbrev jl:List aI := []
noncomputable def pF {R:Type} (fn:fX R):bP.av jk→aI.av jl→(V→az→Option R)→Option R:=fun x y k=>fn x.1 x.2.1 (fun q0=>k (.bool q0) [])
noncomputable def jm (R:Type) (cS:gM R):Env R:=fun i=>match i with
  | 142=>some (true,(aA kO kP (rF cS) bg))
  | _=>none
theorem xk (R:Type):pK Tryz.prog (jm R cS):=by
  intro i b sp h
  unfold jm at h
  split at h
  · cases h; exact ⟨(yw R _ (aO _)),fun h=>nomatch h⟩
  · cases h

noncomputable def qm (R:Type):Nat→Option (Hint × cp R):=fun i=>match i with
  | _=>none

noncomputable def qo {R:Type} (cS:gM R) (x1:List aj) (x2:aj) (k0:Bool→Option R):Option R :=
  cS x1 x2 (fun y3=>k0 (decide (y3≥(0:Int))))
noncomputable def bO {R:Type}:fX R:=fun x1 x2 k0=>qo cS x1 x2 k0
theorem xI {R:Type} (cS:gM R) (x1:List aj) (x2:aj) (k:V→az→Option R):iE tt (jm R cS) (qm R) false Tryz.f123 (aL Tryz.f123) [.sl .str x1 .no, .str x2] [] k =
    qo cS x1 x2 (fun q0=>k (.bool q0) []):=by kernel_rfl
theorem vL (R:Type):∀a∈aQ (aL Tryz.f123),cO tt (jm R cS) (qm R) 0 a:=by
  refine bF 0 (by kernel_rfl) fun i hi => ?_
  omega
theorem wx (R:Type) (other:ay.Spec R) (ho:ay.Spec.Ok Tryz.prog 123 other):ay.Spec.Ok Tryz.prog 123 (aA jk jl (pF bO) other) :=
  bu ho (bj TT mixed (xk R) (keep:=false) rfl rfl rfl rfl 0 (vL R)) fun (x:bP.av jk) (y:aI.av jl) k=>xI cS x.1 x.2.1 k

/-! ### (*humpyard/json.parser).name -/
abbrev jW (R:Type):Type:=(List aj)→(List Token)→Int→(aj→(List Token)→Int→Option R)→Option R
abbrev nc:List bP := [.leaf (.ptr 0 0), .leaf (.Nd .str 1)]
abbrev nd:List aI := [.cells [.sl .token, .int .i64], .tok]
noncomputable def uR {R:Type} (fn:jW R):bP.av nc→aI.av nd→(V→az→Option R)→Option R:=fun x y k=>fn x.2.1 y.1.1 y.1.2.1 (fun q0 q1 q2=>k (.str q0) [.cells [.sl .token q1 .no, .int .i64 q2], .tok])
noncomputable def nf (R:Type) (ak:bW R) (aq:dk R) (bO:fX R):Env R:=fun i=>match i with
  | 43=>some (false,(aA gi gk (jV ak) bg))
  | 122=>some (false,(aA kv kz (pq aq) bg))
  | 123=>some (true,(aA jk jl (pF bO) bg))
  | _=>none
theorem Ca (R:Type):pK Tryz.prog (nf R ak aq bO):=by
  intro i b sp h
  unfold nf at h
  split at h
  · cases h; exact ⟨(ln R _ (aO _)),fun _ h=>nomatch h⟩
  · cases h; exact ⟨(sV R _ (aO _)),fun _ h=>nomatch h⟩
  · cases h; exact ⟨(wx R _ (aO _)),fun h=>nomatch h⟩
  · cases h

noncomputable def vZ (R:Type):Nat→Option (Hint × cp R):=fun i=>match i with
  | _=>none

noncomputable def v7 {R:Type} (ak:bW R) (aq:dk R) (bO:fX R) (x1:List aj) (x2:List Token) (x3:Int) (k0:aj→(List Token)→Int→Option R):Option R :=
  cX (decide ((0:Int)<x2.length)) (bif ((x2.getD 0 (Ty.cn .token)).kind != 2)then (ak 40 x2 x3 (fun y4 y5=>k0 ((x2.getD 0 (Ty.cn .token)).text) y4 y5))else (bO x1 ((x2.getD 0 (Ty.cn .token)).text) (fun y6=>bif y6 then (ak 42 x2 x3 (fun y7 y8=>k0 ((x2.getD 0 (Ty.cn .token)).text) y7 y8))else (cX (decide ((1:Int)≤x2.length)) (aq ([58]:aj) (x2.drop 1) x3 (fun y9 yf wc=>bif (!y9)then (ak 40 yf wc (fun zO Ek=>k0 ((x2.getD 0 (Ty.cn .token)).text) zO Ek))else (k0 ((x2.getD 0 (Ty.cn .token)).text) yf wc)))))))
noncomputable def cz {R:Type}:jW R:=fun x1 x2 x3 k0=>v7 ak aq bO x1 x2 x3 k0
theorem CM {R:Type} (ak:bW R) (aq:dk R) (bO:fX R) (x1:List aj) (x2:List Token) (x3:Int) (k:V→az→Option R):iE (tt.mode [.json]) (nf R ak aq bO) (vZ R) false Tryz.f90 (aL Tryz.f90) [.ptr 0 0, .sl .str x1 (.own 1)] [.cells [.sl .token x2 .no, .int .i64 x3], .tok] k =
    v7 ak aq bO x1 x2 x3 (fun q0 q1 q2=>k (.str q0) [.cells [.sl .token q1 .no, .int .i64 q2], .tok]):=by kernel_rfl
theorem Bc (R:Type):∀a∈aQ (aL Tryz.f90),cO (tt.mode [.json]) (nf R ak aq bO) (vZ R) 2 a:=by
  refine bF 0 (by kernel_rfl) fun i hi => ?_
  omega
theorem BM (R:Type) (other:ay.Spec R) (ho:ay.Spec.Ok Tryz.prog 90 other):ay.Spec.Ok Tryz.prog 90 (aA nc nd (uR cz) other) :=
  bu ho (bj (TT.mode [.json]) mixed (Ca R) (keep:=false) rfl rfl rfl rfl 2 (Bc R)) fun (x:bP.av nc) (y:aI.av nd) k=>CM ak aq bO x.2.1 y.1.1 y.1.2.1 k

end Go.Proofs.YtmlkkgfenfdndaaGreatDoor

