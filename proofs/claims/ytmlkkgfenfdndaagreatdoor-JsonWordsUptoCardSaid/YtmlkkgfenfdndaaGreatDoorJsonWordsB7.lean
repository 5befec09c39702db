/-
  JsonWords, part 7 of 9.
-/
import Derived.Test.YtmlkkgfenfdndaaGreatDoorJsonWordsB6
set_option linter.unusedSimpArgs false
set_option linter.unnecessarySimpa false
set_option linter.unusedVariables false
set_option linter.unusedSectionVars false
noncomputable section
/-
 Functions of the program as pure Lean functions, and the ties; printed by wip/tools/emit.py.
-/
set_option maxRecDepth 100000
namespace Go.Proofs.YtmlkkgfenfdndaaGreatDoor
open Go Go.aG
/-! ### humpyard/quote.Quote -/
abbrev iH (R:Type):Type:=ah→(ah→Bool→Option R)→Option R
abbrev Hi:List bE := [.leaf (.str)]
abbrev Hj:List aA := []
def LB {R:Type} (fn:iH R):bE.au Hi→aA.au Hj→(V→aO→Option R)→Option R:=fun x y k=>fn x.1 (fun q0 q1=>k (.tuple [.str q0, .bool q1]) [])
def Dw {R:Type} (fn:iH R):aG.Spec R→aG.Spec R:=bm Hi Hj (LB fn)
abbrev nR (R:Type):Type:=Nat→(List Int)→ah→Nat→((List Int)→Option R)→Option R
def vm {R:Type} (bO:fZ R) (ak:bD R) (ae:aY R) (fU:oB R) (ag:bl R) (ai:bN R):List (wv R) := [(49,true,(Du bO bb)),(50,false,(jc ae (jb ak bb))),(51,true,(Nt fU bb)),(52,false,(ga ag bb)),(53,false,(mF ai bb)),(39,false,(IS R))]
theorem Sq {R:Type}:ff (R:=R) Tryz.prog (vm bO ak ae fU ag ai) := .p (CI R _ (aM _)) <| .f (kU R _ (kT R _ (aM _))) rfl <| .p (QS R _ (aM _)) <| .f (gO R _ (aM _)) rfl <| .f (pM R _ (aM _)) rfl <| .s (S8) Mk <| .n
def GQ {R:Type} (ae:aY R) (fU:oB R) (ag:bl R) (ai:bN R) (dq:(List Int)→ah→Nat→Option R) (x4:List Int) (x5:ah) (x6:Nat) (e0:(List Int)→Option R):Option R :=
 bif decide (x6<x5.length)then (fU ((qf x5 x6).1:Int) (fun y7=>bif (y7 != 0)then (ae 92 x4 (fun y8=>ae y7 y8 (fun y9=>dq y9 x5 (x6+(qf x5 x6).2))))else (bif (decide (((qf x5 x6).1:Int)<(32:Int)))then (ag ([92,117,48,48]:ah) x4 (fun rI rq=>cu (decide ((0:Int)≤(Int.fdiv ((qf x5 x6).1:Int) (2 ^ (min 4 IntKind.i32.bits))))&&decide ((Int.fdiv ((qf x5 x6).1:Int) (2 ^ (min 4 IntKind.i32.bits)))<(16:Int))) (ae ((([48,49,50,51,52,53,54,55,56,57,97,98,99,100,101,102]:ah).getD ((Int.fdiv ((qf x5 x6).1:Int) (2 ^ (min 4 IntKind.i32.bits))).toNat) 0).toNat:Int) rq (fun qV=>cu (decide ((0:Int)≤(IntKind.i32.wrap ((BitVec.ofInt IntKind.i32.bits ((qf x5 x6).1:Int) &&& BitVec.ofInt IntKind.i32.bits 15).toNat:Int)))&&decide ((IntKind.i32.wrap ((BitVec.ofInt IntKind.i32.bits ((qf x5 x6).1:Int) &&& BitVec.ofInt IntKind.i32.bits 15).toNat:Int))<(16:Int))) (ae ((([48,49,50,51,52,53,54,55,56,57,97,98,99,100,101,102]:ah).getD ((IntKind.i32.wrap ((BitVec.ofInt IntKind.i32.bits ((qf x5 x6).1:Int) &&& BitVec.ofInt IntKind.i32.bits 15).toNat:Int)).toNat) 0).toNat:Int) qV (fun G8=>dq G8 x5 (x6+(qf x5 x6).2)))))))else (ai ((qf x5 x6).1:Int) x4 (fun KZ DM=>dq DM x5 (x6+(qf x5 x6).2))))))else (e0 x4)
def dj {R:Type}:nR R
 | 0,_,_,_,_=>none
 | n+1,hY,hZ,iB,e0=>GQ ae fU ag ai (fun hY hZ iB=>dj n hY hZ iB e0) hY hZ iB e0
def vP:Hint := { live := [4,13],own := [],rows := [],cells := [],drop := [],out := [2,3,4] }
abbrev kL:Type:=(List Int) × ah × Nat
def s5:kL→St:=fun d=>⟨U 4 (.ptr 0 0::U 8 (.ptr 1 0::U 27 ([]))), [.oG (.sl (.int .u8) d.1 (.own 2)), .iter d.2.1 d.2.2, .tok]⟩
def zW {R:Type} (K:Ex→St→Option R) (q0:List Int):Option R:=K (.exit 0) ⟨U 4 (.ptr 0 0::U 36 ([])), [.oG (.sl (.int .u8) q0 (.own 1)), .tok]⟩
def Bp {R:Type} (ae:aY R) (fU:oB R) (ag:bl R) (ai:bN R) (K:Ex→St→Option R) (rc:kL→Option R) (d:kL):Option R:=GQ ae fU ag ai (fun z0 z1 z2=>rc (z0,z1,z2)) d.1 d.2.1 d.2.2 (zW K)
def oL {R:Type} (K:Ex→St→Option R) (n:Nat) (d:kL):Option R:=dj n d.1 d.2.1 d.2.2 (zW K)
abbrev kM:List bE:=PU 4 (.leaf (.ptr 0 0)::PU 8 (.leaf (.ptr 1 0)::PU 27 ([])))
abbrev kN:List aA := [.oG (.Vt (.int .u8) 2), .iter, .tok]
def Bq (x:bE.au kM) (y:aA.au kN):Nat:=(List.length y.1+List.length y.2.1.1+64)
def Br (x:bE.au kM) (y:aA.au kN):kL:=(y.1,y.2.1.1,y.2.1.2)
def zX {R:Type} (L:nR R):bE.au kM→aA.au kN→(Ex→St→Option R)→Option R:=fun x y K=>L (Bq x y) y.1 y.2.1.1 y.2.1.2 (zW K)
def yX (R:Type) (dj:nR R):Nat→Option (Hint × dC R):=fun i=>match i with
 | 6=>some (vP,(dx kM kN (zX dj) j7))
 | _=>none
theorem LC {R:Type} (bO:fZ R) (ak:bD R) (ae:aY R) (fU:oB R) (ag:bl R) (ai:bN R) (dj:nR R) (K:Ex→St→Option R) (rc:St→Option R) (d:kL):roundOf tt (dM (vm bO ak ae fU ag ai)) (yX R dj) 0 ((aT (aI Tryz.f26)).getD 0 .skip) vP (s5 d) rc K=Bp ae fU ag ai K (fun d=>rc (s5 d)) d:=by kernel_rfl
theorem Jg {R:Type} (K:Ex→St→Option R) (n:Nat) (d:kL):oL K (n+1) d=Bp ae fU ag ai K (oL K n) d:=by kernel_rfl
theorem Jh {R:Type} (K:Ex→St→Option R) (d:kL):oL K 0 d=none:=by kernel_rfl
theorem LD (x:bE.au kM) (y:aA.au kN):(⟨bE.eD kM x,aA.eD kN y⟩:St)=s5 (Br x y):=by kernel_rfl
theorem LF {R:Type} (x:bE.au kM) (y:aA.au kN) (K:Ex→St→Option R):zX (dj) x y K=oL K (Bq x y) (Br x y):=by kernel_rfl
theorem Ot {R:Type} (other:dC R) (ho:jt tt (dM (vm bO ak ae fU ag ai)) (yX R dj) 0 ((aT (aI Tryz.f26)).getD 0 .skip) vP other):jt tt (dM (vm bO ak ae fU ag ai)) (yX R dj) 0 ((aT (aI Tryz.f26)).getD 0 .skip) vP (dx kM kN (zX (dj)) other) :=
 dL (A:=oL) ho (fw s5 (Bp ae fU ag ai) (oL) (Jh) (LC bO ak ae fU ag ai dj) (Jg)) Bq Br LD (LF)
def Nx {R:Type} (bO:fZ R) (ak:bD R) (ae:aY R) (dj:nR R) (x1:ah) (k0:ah→Bool→Option R):Option R :=
 bO x1 (fun y2=>bif (!y2)then (k0 ([]:ah) false)else (ak 34 (fun y3=>dj (List.length y3+List.length x1+64) y3 x1 0 (fun HF=>ae 34 HF (fun Iv=>k0 (Gk Iv) true)))))
def dn {R:Type}:iH R:=fun x1 k0=>Nx bO ak ae dj x1 k0
theorem UF {R:Type} (bO:fZ R) (ak:bD R) (ae:aY R) (fU:oB R) (ag:bl R) (ai:bN R) (dj:nR R):gS (R:=R) tt (vm bO ak ae fU ag ai) (yX R dj) false Tryz.f26 (aI Tryz.f26) Hi Hj (LB (Nx bO ak ae dj)):=fun x y k=>by kernel_rfl
theorem PE (R:Type):∀a∈aT (aI Tryz.f26),jn tt (dM (vm bO ak ae fU ag ai)) (yX R dj) 0 a:=by
 refine gR 1 (by kernel_rfl) fun i hi => ?_
 match i,hi with
 | 0,_=>exact cW (by kernel_rfl) (Ot _ eN)
 | n+1,hi=>omega
theorem CN (R:Type):sM Tryz.prog 26 (Dw (dn (R:=R))):=cC TT mixed (Sq (R:=R)) rfl rfl rfl rfl (PE R) (UF bO ak ae fU ag ai dj)
/-! ### humpyard/json.write$1 -/
abbrev jG (R:Type):Type:=ah→((List Int)→Option R)→Option R
abbrev yj:List bE := [.leaf (.str), .leaf (.ptr 0 0)]
abbrev yk:List aA := [.cells [.ptr 1 0], .oG (.cV)]
def DS {R:Type} (fn:jG R):bE.au yj→aA.au yk→(V→aO→Option R)→Option R:=fun x y k=>fn x.1 (fun q0=>k (.tuple []) [.cells [.ptr 1 0], .oG (.sl (.int .u8) q0 (.own 2)), .tok])
def ER {R:Type} (fn:jG R):aG.Spec R→aG.Spec R:=bm yj yk (DS fn)
def ES {R:Type} (dn:iH R) (aj:bG R):List (wv R) := [(26,true,(Dw dn bb)),(52,false,(iF aj bb))]
theorem Kl {R:Type}:ff (R:=R) Tryz.prog (ES dn aj) := .p (CN R _ (aM _)) <| .f (ki R _ (aM _)) rfl <| .n
def ET {R:Type} (dn:iH R) (aj:bG R) (x1:ah) (k0:(List Int)→Option R):Option R :=
 dn x1 (fun y2 y3=>aj y2 (fun y4 y5=>k0 y5))
def dO {R:Type}:jG R:=fun x1 k0=>ET dn aj x1 k0
theorem LG {R:Type} (dn:iH R) (aj:bG R):gS (R:=R) tt (ES dn aj) Ca false Tryz.f61 (aI Tryz.f61) yj yk (DS (ET dn aj)):=fun x y k=>by kernel_rfl
theorem Ji (R:Type):sM Tryz.prog 61 (ER (dO (R:=R))):=cC TT mixed (Kl (R:=R)) rfl rfl rfl rfl eS (LG dn aj)
/-! ### humpyard/json.write$1 -/
abbrev dP (R:Type):Type:=ah→(List Int)→((List Int)→Option R)→Option R
abbrev yl:List bE := [.leaf (.str), .leaf (.ptr 0 0)]
abbrev ym:List aA := [.cells [.ptr 1 0], .oG (.Vt (.int .u8) 2), .tok]
def DT {R:Type} (fn:dP R):bE.au yl→aA.au ym→(V→aO→Option R)→Option R:=fun x y k=>fn x.1 y.2.1 (fun q0=>k (.tuple []) [.cells [.ptr 1 0], .oG (.sl (.int .u8) q0 (.own 3)), .dead, .tok])
def yn {R:Type} (fn:dP R):aG.Spec R→aG.Spec R:=bm yl ym (DT fn)
def EU {R:Type} (dn:iH R) (ag:bl R):List (wv R) := [(26,true,(Dw dn bb)),(52,false,(ga ag bb))]
theorem Km {R:Type}:ff (R:=R) Tryz.prog (EU dn ag) := .p (CN R _ (aM _)) <| .f (gO R _ (aM _)) rfl <| .n
def EV {R:Type} (dn:iH R) (ag:bl R) (x1:ah) (x2:List Int) (k0:(List Int)→Option R):Option R :=
 dn x1 (fun y3 y4=>ag y3 x2 (fun y5 y6=>k0 y6))
def aU {R:Type}:dP R:=fun x1 x2 k0=>EV dn ag x1 x2 k0
theorem LH {R:Type} (dn:iH R) (ag:bl R):gS (R:=R) tt (EU dn ag) Ca false Tryz.f61 (aI Tryz.f61) yl ym (DT (EV dn ag)):=fun x y k=>by kernel_rfl
theorem Bs (R:Type):sM Tryz.prog 61 (yn (aU (R:=R))):=cC TT mixed (Km (R:=R)) rfl rfl rfl rfl eS (LH dn ag)
/-! ### humpyard/json.write -/
abbrev bS (R:Type):Type:=Json→(List Int)→((List Int)→Option R)→Option R
abbrev je:List bE := [.leaf (.ptr 0 0), .agg [.int .i64, .int .i64, .int .i64, .str, .sl .str, .sl .json]]
abbrev jf:List aA := [.oG (.Vt (.int .u8) 1), .tok]
def fK {R:Type} (fn:bS R):bE.au je→aA.au jf→(V→aO→Option R)→Option R:=fun x y k=>fn (⟨x.2.1.1,⟨x.2.1.2.1,x.2.1.2.2.1⟩,x.2.1.2.2.2.1,x.2.1.2.2.2.2.1,x.2.1.2.2.2.2.2.1⟩:Json) y.1 (fun q0=>k (.tuple []) [.oG (.sl (.int .u8) q0 (.own 2)), .dead, .tok])
def GR {R:Type} (fn:bS R):aG.Spec R→aG.Spec R:=bm je jf (fK fn)
abbrev jq (R:Type):Type:=Nat→ah→(List Json)→Int→Int→(List Int)→Json→(ah→(List Int)→Option R)→Option R
def oM {R:Type} (bC:fA R) (ae:aY R) (ag:bl R) (ay:bS R) (aU:dP R):List (wv R) := [(46,true,(zw bC bb)),(50,false,(jc ae bb)),(52,false,(ga ag bb)),(38,false,(bm je jf (fK ay) bb)),(61,false,(yn aU bb))]
theorem MA {R:Type} (ay:bS R) (pb:aG.Spec.Ok Tryz.prog 38 (bm je jf (fK ay) bb)):ff (R:=R) Tryz.prog (oM bC ae ag ay aU) := .p (zR R _ (aM _)) <| .f (kU R _ (aM _)) rfl <| .f (gO R _ (aM _)) rfl <| .f pb rfl <| .f (Bs R _ (aM _)) rfl <| .n
def Bt {R:Type} (ae:aY R) (ay:bS R) (aU:dP R) (dq:ah→(List Json)→Int→Int→(List Int)→Json→Option R) (rW:ah) (wk:List Json) (nG:Int) (wb:Int) (Gg:List Int) (EM:Json) (e0:ah→(List Int)→Option R):Option R :=
 bif (decide (wb<nG))then (cu (decide ((0:Int)≤wb)&&decide (wb<wk.length)) (bif (decide (wb>(0:Int)))then (ae 44 Gg (fun CK=>bif (EM.kind==7)then (cu (decide ((0:Int)≤wb)&&decide (wb<EM.names.length)) (aU (EM.names.getD wb.toNat (Ty.bU .str)) CK (fun y22=>ae 58 y22 (fun Ya=>ay (⟨(wk.getD wb.toNat (Ty.bU .json)).kind,⟨(wk.getD wb.toNat (Ty.bU .json)).num.aF,(wk.getD wb.toNat (Ty.bU .json)).num.exp⟩,(wk.getD wb.toNat (Ty.bU .json)).text,(wk.getD wb.toNat (Ty.bU .json)).names,(wk.getD wb.toNat (Ty.bU .json)).items⟩:Json) Ya (fun y24=>dq rW wk nG (IntKind.i64.wrap (wb+1)) y24 (⟨EM.kind,⟨EM.num.aF,EM.num.exp⟩,EM.text,EM.names,EM.items⟩:Json))))))else (ay (⟨(wk.getD wb.toNat (Ty.bU .json)).kind,⟨(wk.getD wb.toNat (Ty.bU .json)).num.aF,(wk.getD wb.toNat (Ty.bU .json)).num.exp⟩,(wk.getD wb.toNat (Ty.bU .json)).text,(wk.getD wb.toNat (Ty.bU .json)).names,(wk.getD wb.toNat (Ty.bU .json)).items⟩:Json) CK (fun Qk=>dq rW wk nG (IntKind.i64.wrap (wb+1)) Qk (⟨EM.kind,⟨EM.num.aF,EM.num.exp⟩,EM.text,EM.names,EM.items⟩:Json)))))else (bif (EM.kind==7)then (cu (decide ((0:Int)≤wb)&&decide (wb<EM.names.length)) (aU (EM.names.getD wb.toNat (Ty.bU .str)) Gg (fun Sh=>ae 58 Sh (fun D5=>ay (⟨(wk.getD wb.toNat (Ty.bU .json)).kind,⟨(wk.getD wb.toNat (Ty.bU .json)).num.aF,(wk.getD wb.toNat (Ty.bU .json)).num.exp⟩,(wk.getD wb.toNat (Ty.bU .json)).text,(wk.getD wb.toNat (Ty.bU .json)).names,(wk.getD wb.toNat (Ty.bU .json)).items⟩:Json) D5 (fun I8=>dq rW wk nG (IntKind.i64.wrap (wb+1)) I8 (⟨EM.kind,⟨EM.num.aF,EM.num.exp⟩,EM.text,EM.names,EM.items⟩:Json))))))else (ay (⟨(wk.getD wb.toNat (Ty.bU .json)).kind,⟨(wk.getD wb.toNat (Ty.bU .json)).num.aF,(wk.getD wb.toNat (Ty.bU .json)).num.exp⟩,(wk.getD wb.toNat (Ty.bU .json)).text,(wk.getD wb.toNat (Ty.bU .json)).names,(wk.getD wb.toNat (Ty.bU .json)).items⟩:Json) Gg (fun RN=>dq rW wk nG (IntKind.i64.wrap (wb+1)) RN (⟨EM.kind,⟨EM.num.aF,EM.num.exp⟩,EM.text,EM.names,EM.items⟩:Json))))))else (e0 rW Gg)
def bW {R:Type} (ay:bS R):jq R
 | 0,_,_,_,_,_,_,_=>none
 | n+1,hY,hZ,iB,ql,E3,He,e0=>Bt ae ay aU (fun hY hZ iB ql E3 He=>bW ay n hY hZ iB ql E3 He e0) hY hZ iB ql E3 He e0
def ph:Hint := { live := [2,3,4,5,43,44,45],own := [],rows := [],cells := [],drop := [],out := [2,5] }
abbrev gD:Type:=ah × (List Json) × Int × Int × (List Int) × Json
def ot:gD→St:=fun d=>⟨U 2 (.ptr 2 0 :: .ptr 3 0 :: .func 61 [] [.ptr 2 0] :: .str d.1::U 37 (.sl .json d.2.1 .no :: .int .i64 d.2.2.1 :: .int .i64 d.2.2.2.1::U 28 ([]))), [.oG (.sl (.int .u8) d.2.2.2.2.1 (.own 4)), .dead, .cells [.ptr 0 0], .cells [.int .i64 d.2.2.2.2.2.kind, .int .i64 d.2.2.2.2.2.num.aF, .int .i64 d.2.2.2.2.2.num.exp, .str d.2.2.2.2.2.text, .sl .str d.2.2.2.2.2.names .no, .sl .json d.2.2.2.2.2.items .no], .tok]⟩
def tm {R:Type} (K:Ex→St→Option R) (q0:ah) (q1:List Int):Option R:=K (.exit 1) ⟨U 2 (.ptr 2 0::U 2 (.str q0::U 68 ([]))), [.oG (.sl (.int .u8) q1 (.own 3)), .dead, .cells [.ptr 0 0], .tok]⟩
def ug {R:Type} (ae:aY R) (ay:bS R) (aU:dP R) (K:Ex→St→Option R) (rc:gD→Option R) (d:gD):Option R:=Bt ae ay aU (fun z0 z1 z2 z3 z4 z5=>rc (z0,z1,z2,z3,z4,z5)) d.1 d.2.1 d.2.2.1 d.2.2.2.1 d.2.2.2.2.1 d.2.2.2.2.2 (tm K)
def kn {R:Type} (ay:bS R) (K:Ex→St→Option R) (n:Nat) (d:gD):Option R:=bW ay n d.1 d.2.1 d.2.2.1 d.2.2.2.1 d.2.2.2.2.1 d.2.2.2.2.2 (tm K)
abbrev gE:List bE:=PU 2 (.leaf (.ptr 2 0) :: .leaf (.ptr 3 0) :: .func 61 [] [.ptr 2 0] :: .leaf (.str)::PU 37 (.leaf (.sl .json) :: .leaf (.int .i64) :: .leaf (.int .i64)::PU 28 ([])))
abbrev gF:List aA := [.oG (.Vt (.int .u8) 4), .dead, .cells [.ptr 0 0], .cells [.int .i64, .int .i64, .int .i64, .str, .sl .str, .sl .json], .tok]
def uh (x:bE.au gE) (y:aA.au gF):Nat:=(List.length x.2.2.2.2.2.1+List.length x.2.2.2.2.2.2.2.2.2.2.2.2.2.2.2.2.2.2.2.2.2.2.2.2.2.2.2.2.2.2.2.2.2.2.2.2.2.2.2.2.2.2.2.1+Int.natAbs x.2.2.2.2.2.2.2.2.2.2.2.2.2.2.2.2.2.2.2.2.2.2.2.2.2.2.2.2.2.2.2.2.2.2.2.2.2.2.2.2.2.2.2.2.1+Int.natAbs x.2.2.2.2.2.2.2.2.2.2.2.2.2.2.2.2.2.2.2.2.2.2.2.2.2.2.2.2.2.2.2.2.2.2.2.2.2.2.2.2.2.2.2.2.2.1+List.length y.1+Json.fu (⟨y.2.2.2.1.1,⟨y.2.2.2.1.2.1,y.2.2.2.1.2.2.1⟩,y.2.2.2.1.2.2.2.1,y.2.2.2.1.2.2.2.2.1,y.2.2.2.1.2.2.2.2.2.1⟩:Json)+64)
def ui (x:bE.au gE) (y:aA.au gF):gD:=(x.2.2.2.2.2.1,x.2.2.2.2.2.2.2.2.2.2.2.2.2.2.2.2.2.2.2.2.2.2.2.2.2.2.2.2.2.2.2.2.2.2.2.2.2.2.2.2.2.2.2.1,x.2.2.2.2.2.2.2.2.2.2.2.2.2.2.2.2.2.2.2.2.2.2.2.2.2.2.2.2.2.2.2.2.2.2.2.2.2.2.2.2.2.2.2.2.1,x.2.2.2.2.2.2.2.2.2.2.2.2.2.2.2.2.2.2.2.2.2.2.2.2.2.2.2.2.2.2.2.2.2.2.2.2.2.2.2.2.2.2.2.2.2.1,y.1,(⟨y.2.2.2.1.1,⟨y.2.2.2.1.2.1,y.2.2.2.1.2.2.1⟩,y.2.2.2.1.2.2.2.1,y.2.2.2.1.2.2.2.2.1,y.2.2.2.1.2.2.2.2.2.1⟩:Json))
def tp {R:Type} (L:jq R):bE.au gE→aA.au gF→(Ex→St→Option R)→Option R:=fun x y K=>L (uh x y) x.2.2.2.2.2.1 x.2.2.2.2.2.2.2.2.2.2.2.2.2.2.2.2.2.2.2.2.2.2.2.2.2.2.2.2.2.2.2.2.2.2.2.2.2.2.2.2.2.2.2.1 x.2.2.2.2.2.2.2.2.2.2.2.2.2.2.2.2.2.2.2.2.2.2.2.2.2.2.2.2.2.2.2.2.2.2.2.2.2.2.2.2.2.2.2.2.1 x.2.2.2.2.2.2.2.2.2.2.2.2.2.2.2.2.2.2.2.2.2.2.2.2.2.2.2.2.2.2.2.2.2.2.2.2.2.2.2.2.2.2.2.2.2.1 y.1 (⟨y.2.2.2.1.1,⟨y.2.2.2.1.2.1,y.2.2.2.1.2.2.1⟩,y.2.2.2.1.2.2.2.1,y.2.2.2.1.2.2.2.2.1,y.2.2.2.1.2.2.2.2.2.1⟩:Json) (tm K)
def rX (R:Type) (bW:jq R):Nat→Option (Hint × dC R):=fun i=>match i with
 | 18=>some (ph,(dx gE gF (tp bW) j7))
 | _=>none
theorem Gq {R:Type} (bC:fA R) (ae:aY R) (ag:bl R) (ay:bS R) (aU:dP R) (bW:jq R) (K:Ex→St→Option R) (rc:St→Option R) (d:gD):roundOf tt (dM (oM bC ae ag ay aU)) (rX R bW) 2 ((aT (aI Tryz.f38)).getD 0 .skip) ph (ot d) rc K=ug ae ay aU K (fun d=>rc (ot d)) d:=by kernel_rfl
theorem E8 {R:Type} (ay:bS R) (K:Ex→St→Option R) (n:Nat) (d:gD):kn ay K (n+1) d=ug ae ay aU K (kn ay K n) d:=by kernel_rfl
theorem E9 {R:Type} (ay:bS R) (K:Ex→St→Option R) (d:gD):kn ay K 0 d=none:=by kernel_rfl
theorem Gr (x:bE.au gE) (y:aA.au gF):(⟨bE.eD gE x,aA.eD gF y⟩:St)=ot (ui x y):=by kernel_rfl
theorem Gs {R:Type} (ay:bS R) (x:bE.au gE) (y:aA.au gF) (K:Ex→St→Option R):tp (bW ay) x y K=kn ay K (uh x y) (ui x y):=by kernel_rfl
theorem H5 {R:Type} (ay:bS R) (other:dC R) (ho:jt tt (dM (oM bC ae ag ay aU)) (rX R (bW ay)) 2 ((aT (aI Tryz.f38)).getD 0 .skip) ph other):jt tt (dM (oM bC ae ag ay aU)) (rX R (bW ay)) 2 ((aT (aI Tryz.f38)).getD 0 .skip) ph (dx gE gF (tp (bW ay)) other) :=
 dL (A:=kn ay) ho (fw ot (ug ae ay aU) (kn ay) (E9 ay) (Gq bC ae ag ay aU (bW ay)) (E8 ay)) uh ui Gr (Gs ay)
def GS {R:Type} (bC:fA R) (ae:aY R) (ag:bl R) (aU:dP R) (bW:jq R) (x1:Json) (x2:List Int) (k0:(List Int)→Option R):Option R :=
 let j33:=fun (VP:ah)=>cu (decide ((0:Int)<VP.length)) (ae ((VP.getD 0 0).toNat:Int) x2 (fun KZ=>bW (List.length VP+List.length x1.items+Int.natAbs (x1.items.length:Int)+Int.natAbs 0+List.length KZ+Json.fu (⟨x1.kind,⟨x1.num.aF,x1.num.exp⟩,x1.text,x1.names,x1.items⟩:Json)+64) VP x1.items (x1.items.length:Int) 0 KZ (⟨x1.kind,⟨x1.num.aF,x1.num.exp⟩,x1.text,x1.names,x1.items⟩:Json) (fun Si S9=>cu (decide ((1:Int)<Si.length)) (ae ((Si.getD 1 0).toNat:Int) S9 (fun Sj=>k0 Sj))))); bif (x1.kind==1)then (ag ([110,117,108,108]:ah) x2 (fun y3 y4=>k0 y4))else (bif (x1.kind==2)then (ag ([102,97,108,115,101]:ah) x2 (fun y5 y6=>k0 y6))else (bif (x1.kind==3)then (ag ([116,114,117,101]:ah) x2 (fun y7 y8=>k0 y8))else (bif (x1.kind==4)then (bC x1.num (fun y9=>ag y9 x2 (fun rI rq=>k0 rq)))else (bif (x1.kind==5)then (aU x1.text x2 (fun qV=>k0 qV))else (bif (x1.kind==7)then (j33 ([123,125]:ah))else (j33 ([91,93]:ah)))))))
def Bu {R:Type} (ay:bS R):bS R:=fun x1 x2 k0=>GS bC ae ag aU (bW ay) x1 x2 k0
theorem Ou {R:Type} (bC:fA R) (ae:aY R) (ag:bl R) (ay:bS R) (aU:dP R) (bW:jq R):gS (R:=R) tt (oM bC ae ag ay aU) (rX R bW) false Tryz.f38 (aI Tryz.f38) je jf (fK (GS bC ae ag aU bW)):=fun x y k=>by kernel_rfl
theorem Kn (R:Type) (ay:bS R) (pb:aG.Spec.Ok Tryz.prog 38 (bm je jf (fK ay) bb)):∀a∈aT (aI Tryz.f38),jn tt (dM (oM bC ae ag ay aU)) (rX R (bW ay)) 2 a:=by
 refine gR 1 (by kernel_rfl) fun i hi => ?_
 match i,hi with
 | 0,_=>exact cW (by kernel_rfl) (H5 ay _ eN)
 | n+1,hi=>omega
theorem Ko (R:Type) (ay:bS R) (pb:aG.Spec.Ok Tryz.prog 38 (bm je jf (fK ay) bb)):sM Tryz.prog 38 (GR (Bu ay)):=cC TT mixed (MA ay pb) rfl rfl rfl rfl (Kn R ay pb) (Ou bC ae ag ay aU (bW ay))
def jg {R:Type}:Nat→bS R
 | 0,_,_,_=>none
 | n+1,hY,hZ,k0'=>Bu (jg n) hY hZ k0'
theorem Yd {R:Type} (n:Nat):jg (R:=R) (n+1)=Bu (jg n):=by kernel_rfl
theorem LI (R:Type):∀n,aG.Spec.Ok Tryz.prog 38 (bm je jf (fK (jg (R:=R) n)) bb) :=
 wu (run:=fun n=>fK (jg (R:=R) n)) (fun x y k=>by kernel_rfl) fun n hyp=>Ko R (jg n) hyp bb (aM _)
def cF {R:Type}:bS R:=fun x1 x2 k0=>jg (Json.depth x1+2) x1 x2 k0
theorem LJ (R:Type):fK (R:=R) cF=fun x y k=>fK (jg (Json.depth (⟨x.2.1.1,⟨x.2.1.2.1,x.2.1.2.2.1⟩,x.2.1.2.2.2.1,x.2.1.2.2.2.2.1,x.2.1.2.2.2.2.2.1⟩:Json)+2)) x y k:=by kernel_rfl
theorem LK (R:Type) (other:aG.Spec R) (ho:aG.Spec.Ok Tryz.prog 38 other):aG.Spec.Ok Tryz.prog 38 (bm je jf (fK cF) other) :=
 CA (FC (run:=fun n=>fK (jg (R:=R) n)) (fun x y=>(Json.depth (⟨x.2.1.1,⟨x.2.1.2.1,x.2.1.2.2.1⟩,x.2.1.2.2.2.1,x.2.1.2.2.2.2.1,x.2.1.2.2.2.2.2.1⟩:Json)+2)) ho (LI R)) (LJ R)
end Go.Proofs.YtmlkkgfenfdndaaGreatDoor
set_option maxRecDepth 100000
namespace Go.Proofs.YtmlkkgfenfdndaaGreatDoor
open Go Go.aG Go.Lib
def MB:ah := [48,49,50,51,52,53,54,55,56,57,97,98,99,100,101,102]
def Hk (c:Nat):Nat:=if c=34∨c=92 then c else if c=8 then 98 else if c=12 then 102 else if c=10 then 110 else if c=13 then 114 else if c=9 then 116 else 0
def qc (c:Nat):ah:=if Hk c≠0 then [92,UInt8.ofNat (Hk c)]else if c<32 then [92,117,48,48,MB.getD (c / 16) 0,MB.getD (c % 16) 0]else enc c
def Vv (rs:List Nat):ah:=rs.flatMap qc
def qt (rs:List Nat):ah:=34::(Vv rs ++ [34])
def Ny (s:ah):Option (Nat × ah):=if ([92]:ah).isPrefixOf s then UE (s.drop 1)else yi s
def uq:Nat→ah→ah→Option (ah × ah)
  | 0,_,_=>none
  | n+1,s,o=>if ([34]:ah).isPrefixOf s then some (o,s.drop 1)else match Ny s with|none=>none|some (c,r)=>uq n r (o++enc c)
theorem longP_ok {s r:ah} {c:Nat} (h:LA s=some (c,r)):vr c∧r.length+4≤s.length:=by
  unfold LA at h
  split at h
  · cases h
  · rename_i v r1 hu
    obtain ⟨hv,hl,hr⟩:=Bo hu
    split at h
    · cases h
      refine ⟨by unfold vr; omega,?_⟩
      rw[hr,List.length_drop]; omega
    · split at h
      · cases h
      · split at h
        · split at h
          · cases h
          · rename_i w r2 hu2
            obtain ⟨hw,VE,hr2⟩:=Bo hu2
            split at h
            · simp only[Option.some.injEq,Prod.mk.injEq]at h
              obtain ⟨hc,rfl⟩:=h
              refine ⟨by unfold vr; omega,?_⟩
              rw[hr2,hr]
              simp only[List.length_drop]
              rw[hr]at VE
              simp only[List.length_drop]at VE
              omega
            · cases h
        · cases h
theorem Ye {s r:ah} {c:Nat} (h:UE s=some (c,r)):vr c∧r.length<s.length:=by
  cases s with
  | nil=>cases h
  | cons b t =>
    simp only[UE]at h
    have hb:=UInt8.toNat_lt b
    split at h
    · cases h; exact ⟨by unfold vr; omega,by simp⟩
    split at h
    · cases h; exact ⟨by unfold vr; omega,by simp⟩
    split at h
    · cases h; exact ⟨by unfold vr; omega,by simp⟩
    split at h
    · cases h; exact ⟨by unfold vr; omega,by simp⟩
    split at h
    · cases h; exact ⟨by unfold vr; omega,by simp⟩
    split at h
    · cases h; exact ⟨by unfold vr; omega,by simp⟩
    split at h
    · obtain ⟨h1,h2⟩:=longP_ok h
      exact ⟨h1,by simp only[List.length_cons]; omega⟩
    · cases h
theorem QV {s r:ah} {c:Nat} (h:yi s=some (c,r)):vr c∧r.length<s.length:=by
  unfold yi at h
  split at h
  · cases h
  · rename_i ju
    split at h
    · cases h
    · split at h
      · cases h
      · cases h
        have h1:=decodeL_width s
        have h2:0<s.length:=List.length_pos_iff.2 ju
        exact ⟨dec_vr s,by rw[List.length_drop]; omega⟩
theorem UG {s r:ah} {c:Nat} (h:Ny s=some (c,r)):vr c∧r.length<s.length:=by
  unfold Ny at h
  split at h
  · obtain ⟨h1,h2⟩:=Ye h
    exact ⟨h1,by rw[List.length_drop]at h2; omega⟩
  · exact QV h
theorem Yf:∀(n m:Nat) (s o:ah),s.length<n→s.length<m→uq n s o=uq m s o
  | 0,_,_,_,h,_=>by omega
  | _+1,0,_,_,_,h=>by omega
  | n+1,m+1,s,o,hn,hm=>by
    unfold uq
    split
    · rfl
    · cases hs:Ny s with
      | none=>rfl
      | some p =>
        obtain ⟨c,r⟩:=p
        obtain ⟨_,h2⟩:=UG hs
        exact Yf n m r _ (by omega) (by omega)
theorem unq_loop {R:Type} (x:ah) (e0:ah→ah→List Int→Option R) (e1:ah→ah→Int→Bool→ah→List Int→Option R):∀(n:Nat) (s o:ah),s.length<n→o.length+4*s.length≤90000000000 →
    (match uq n s o with
     | some (o',r)=>bu n x s (zs o) e0 e1=e0 x r (zs o')
     | none=>∃a b,bu n x s (zs o) e0 e1=e1 x [] 0 false a b):=by
  intro n
  induction n with
  | zero=>intro s o h; omega
  | succ n ih =>
    intro s o h hb
    have hL:bu (n+1) x s (zs o) e0 e1=sZ ai aN bz bn (fun hY hZ iB=>bu n hY hZ iB e0 e1) x s (zs o) e0 e1:=rfl
    rw[hL]
    unfold sZ
    rw[Ta _ _ (by simp) (by omega)]
    simp only[uq]
    have hlim:Lim o:=by unfold Lim; omega
    by_cases J4:([34]:ah).isPrefixOf s=true
    · rw[if_pos J4,if_pos J4]
      rfl
    · rw[if_neg J4,if_neg J4,Bool.not_false,cond_true,Ta _ _ (by simp) (by omega)]
      have fin:∀(c:Nat) (r:ah),vr c→r.length<s.length →
          (match uq n r (o++enc c)with
           | some (o',r')=>bu n x r (zs (o++enc c)) e0 e1=e0 x r' (zs o')
           | none=>∃a b,bu n x r (zs (o++enc c)) e0 e1=e1 x [] 0 false a b):=fun c r hv hr=>by
        have:=GM hv
        exact ih r (o++enc c) (by omega) (by rw[List.length_append]; omega)
      unfold Ny
      by_cases WV:([92]:ah).isPrefixOf s=true
      · rw[if_pos WV,if_pos WV]
        have e1':s.drop ([92]:ah).length=s.drop 1:=rfl
        rw[e1',cond_true]
        have hk:=esc_ok (R:=R) (s.drop 1) (by rw[List.length_drop]; omega) (fun rq qV=>bif (decide (rq<(0:Int)))then (e1 x ([]:ah) 0 false qV (zs o))else (ai rq (zs o) (fun G8 KZ=>bu n x qV KZ e0 e1)))
        cases he:UE (s.drop 1)with
        | none =>
          rw[he]at hk
          obtain ⟨r,hk⟩:=hk
          exact ⟨r,zs o,hk.trans (by rw[aB (show (-1:Int)<0 by omega),cond_true])⟩
        | some p =>
          obtain ⟨c,r⟩:=p
          rw[he]at hk
          obtain ⟨hv,hr⟩:=Ye he
          rw[List.length_drop]at hr
          simp only at hk ⊢
          rw[hk,aV (show ¬(c:Int)<0 by omega),cond_false]
          obtain ⟨q,hq⟩:=wr hv o hlim (fun G8 KZ=>bu n x r KZ e0 e1)
          rw[hq]
          exact fin c r hv (by omega)
      · rw[if_neg WV,if_neg WV,cond_false]
        have hk:=plain_ok (R:=R) s (by omega) (fun DM HF=>bif (decide (DM<(0:Int)))then (e1 x ([]:ah) 0 false HF (zs o))else (ai DM (zs o) (fun Iv Iu=>bu n x HF Iu e0 e1)))
        cases he:yi s with
        | none =>
          rw[he]at hk
          simp only at hk ⊢
          exact ⟨s,zs o,hk.trans (by rw[aB (show (-1:Int)<0 by omega),cond_true])⟩
        | some p =>
          obtain ⟨c,r⟩:=p
          rw[he]at hk
          obtain ⟨hv,hr⟩:=QV he
          simp only at hk ⊢
          rw[hk,aV (show ¬(c:Int)<0 by omega),cond_false]
          obtain ⟨q,hq⟩:=wr hv o hlim (fun Iv Iu=>bu n x r Iu e0 e1)
          rw[hq]
          exact fin c r hv (by omega)
def Z4 (s:ah):Option (ah × ah):=if ([34]:ah).isPrefixOf s then uq (s.length+1) (s.drop 1) []else none
theorem unquote_ok {R:Type} (s:ah) (hs:s.length≤20000000000) (k:ah→Int→Bool→Option R) :
    fV s k=match Z4 s with|some (o,r)=>k o (IntKind.i64.wrap ((s.length:Int) - (r.length:Int))) true|none=>k [] 0 false:=by
  have e:fV s k=zx aN bu s k:=rfl
  rw[e]
  unfold zx Z4
  rw[Ta _ _ (by simp) (by omega)]
  by_cases J4:([34]:ah).isPrefixOf s=true
  · rw[if_pos J4,if_pos J4,Bool.not_true,cond_false]
    have e1:s.drop ([34]:ah).length=s.drop 1:=rfl
    rw[e1]
    have hd:(s.drop 1).length≤s.length:=by rw[List.length_drop]; omega
    have key:=unq_loop (R:=R) s (fun UA Nv CK=>k (Gk CK) (IntKind.i64.wrap ((UA.length:Int) - (Nv.length:Int))) true) (fun y22 Ya y24 Qk Sh D5=>k Ya y24 Qk) (List.length s+List.length (s.drop 1)+List.length ([]:List Int)+64) (s.drop 1) [] (by omega) (by simp only[List.length_nil]; omega)
    rw[Yf _ (s.length+1) (s.drop 1) [] (by omega) (by omega)]at key
    cases hu:uq (s.length+1) (s.drop 1) []with
    | none =>
      rw[hu]at key
      obtain ⟨a,b,key⟩:=key
      exact key
    | some p =>
      obtain ⟨o,r⟩:=p
      rw[hu]at key
      simp only at key ⊢
      refine Eq.trans key ?_
      rw[bstr_zs]
  · rw[if_neg J4,if_neg J4]
    rfl
theorem H6 (a b:UInt8) (t:ah):([a]:ah).isPrefixOf (b::t)=(a==b):=by
  simp[List.isPrefixOf]
theorem hex_back:∀c:Fin 32,Kk [48,48,MB.getD (c.val / 16) 0,MB.getD (c.val % 16) 0] 0=some c.val:=by decide +kernel
theorem u8_ne {b:UInt8} {n:Nat} (hn:n<256) (h:b.toNat≠n):((UInt8.ofNat n)==b)=false:=by
  rw[beq_eq_false_iff_ne]
  rintro rfl
  rw[iV n hn]at h
  exact h rfl
theorem enc_first {c:Nat} (hv:vr c) (h:32≤c) (J4:c≠34) (WV:c≠92):∃b t,enc c=b::t∧b.toNat≠34∧b.toNat≠92:=by
  have kY:=WK hv
  rcases FD hv with ⟨h1,e⟩|⟨h0,h1,e⟩|⟨h0,h1,e⟩|⟨h0,e⟩
  · exact ⟨_,_,e,by rw[iV _ (by omega)]; exact J4,by rw[iV _ (by omega)]; exact WV⟩
  · exact ⟨_,_,e,by rw[iV _ (by omega)]; omega,by rw[iV _ (by omega)]; omega⟩
  · exact ⟨_,_,e,by rw[iV _ (by omega)]; omega,by rw[iV _ (by omega)]; omega⟩
  · exact ⟨_,_,e,by rw[iV _ (by omega)]; omega,by rw[iV _ (by omega)]; omega⟩
theorem Yg (c:Nat):(Hk c=0∧c≠34∧c≠92)∨c=34∨c=92∨c=8∨c=12∨c=10∨c=13∨c=9:=by
  unfold Hk
  by_cases h1:c=34 <;> by_cases h2:c=92 <;> by_cases h3:c=8 <;> by_cases h4:c=12 <;> by_cases h5:c=10 <;> by_cases h6:c=13 <;> by_cases h7:c=9 <;> simp[h1,h2,h3,h4,h5,h6,h7]
theorem qc_hex {c:Nat} (h0:Hk c=0) (h:c<32):qc c = [92,117,48,48,MB.getD (c / 16) 0,MB.getD (c % 16) 0]:=by unfold qc; rw[if_neg (by omega),if_pos h]
theorem Yh {c:Nat} (h0:Hk c=0) (h:¬c<32):qc c=enc c:=by unfold qc; rw[if_neg (by omega),if_neg h]
theorem step_qc {c:Nat} (hv:vr c) (t:ah):([34]:ah).isPrefixOf (qc c++t)=false∧Ny (qc c++t)=some (c,t):=by
  rcases Yg c with ⟨h0,J4,WV⟩|rfl|rfl|rfl|rfl|rfl|rfl|rfl
  · by_cases h32:c<32
    · rw[qc_hex h0 h32]
      refine ⟨rfl,?_⟩
      have hb:=hex_back ⟨c,h32⟩
      simp only at hb
      show LA (48::48::MB.getD (c / 16) 0::MB.getD (c % 16) 0::t)=some (c,t)
      have hu:EP (48::48::MB.getD (c / 16) 0::MB.getD (c % 16) 0::t)=some (c,t):=by
        unfold EP
        rw[if_neg (by simp only[List.length_cons]; omega)]
        have e:List.take 4 (48::48::MB.getD (c / 16) 0::MB.getD (c % 16) 0::t) = [48,48,MB.getD (c / 16) 0,MB.getD (c % 16) 0]:=rfl
        rw[e,hb]
        rfl
      unfold LA
      rw[hu]
      simp only
      rw[if_pos (.inl (by omega))]
    · rw[Yh h0 h32]
      obtain ⟨b,u,e,g1,g2⟩:=enc_first hv (by omega) J4 WV
      have e2:enc c++t=b::(u++t):=by rw[e]; rfl
      refine ⟨?_,?_⟩
      · rw[e2,H6]
        exact u8_ne (n:=34) (by omega) g1
      · unfold Ny
        have:([92]:ah).isPrefixOf (enc c++t)=false:=by
          rw[e2,H6]
          exact u8_ne (n:=92) (by omega) g2
        rw[this]
        simp only[Bool.false_eq_true,if_false]
        unfold yi
        rw[if_neg (enc_ne hv t),S7 hv t]
        simp only
        have hg:=ZQ hv t
        unfold Pe at hg
        rw[S7 hv t]at hg
        simp only at hg
        rw[if_neg hg,if_neg h32,List.drop_left]
  · exact ⟨rfl,rfl⟩
  · exact ⟨rfl,rfl⟩
  · exact ⟨rfl,rfl⟩
  · exact ⟨rfl,rfl⟩
  · exact ⟨rfl,rfl⟩
  · exact ⟨rfl,rfl⟩
  · exact ⟨rfl,rfl⟩
theorem uq_qc:∀(rs:List Nat),(∀c∈rs,vr c)→∀(n:Nat) (o more:ah),rs.length<n→uq n (Vv rs++34::more) o=some (o++eD rs,more)
  | [],_,n,o,more,hn=>by
    obtain ⟨m,rfl⟩:∃m,n=m+1:=⟨n - 1,by simp at hn; omega⟩
    have:Vv []++34::more=34::more:=rfl
    rw[this]
    simp[uq,List.isPrefixOf,eD]
  | c::rs,hr,n,o,more,hn=>by
    obtain ⟨m,rfl⟩:∃m,n=m+1:=⟨n - 1,by simp at hn; omega⟩
    have hv:=hr c (by simp)
    have e:Vv (c::rs)++34::more=qc c++(Vv rs++34::more):=by simp[Vv]
    obtain ⟨h1,h2⟩:=step_qc hv (Vv rs++34::more)
    rw[e]
    simp only[uq,h1,h2,Bool.false_eq_true,if_false]
    rw[uq_qc rs (fun x hx=>hr x (by simp[hx])) m (o++enc c) more (by simp at hn; omega)]
    simp[eD]
theorem qc_pos {c:Nat} (hv:vr c):1≤(qc c).length:=by
  unfold qc
  split
  · simp
  · split
    · simp
    · exact (GM hv).1
theorem qcL_pos:∀(rs:List Nat),(∀c∈rs,vr c)→rs.length≤(Vv rs).length
  | [],_=>by simp[Vv]
  | c::rs,h=>by
    have h1:=qc_pos (h c (by simp))
    have h2:=qcL_pos rs (fun x hx=>h x (by simp[hx]))
    have:Vv (c::rs)=qc c++Vv rs:=by simp[Vv]
    rw[this,List.length_append,List.length_cons]
    omega
theorem uqS_qt (rs:List Nat) (hr:∀c∈rs,vr c) (more:ah):Z4 (qt rs++more)=some (eD rs,more):=by
  have e:qt rs++more=34::(Vv rs++34::more):=by unfold qt; simp
  have hq:=qcL_pos rs hr
  rw[e]
  unfold Z4
  rw[H6]
  simp only[BEq.rfl,if_true,List.drop_succ_cons,List.drop_zero]
  have:=uq_qc rs hr ((34::(Vv rs++34::more)).length+1) [] more (by simp only[List.length_cons,List.length_append]; omega)
  rw[this]
  rfl
theorem shr64 (c n:Nat) (h:n≤64):Int.fdiv (c:Int) (2 ^ (min n IntKind.i64.bits))=((c / 2 ^ n:Nat):Int):=by
 have e:min n IntKind.i64.bits=n:=Nat.min_eq_left h
 rw[e,Int.fdiv_eq_ediv_of_nonneg _ (by exact Int.le_of_lt (Int.pow_pos (by omega)))]
 rw[Int.natCast_ediv]
 congr 1
end Go.Proofs.YtmlkkgfenfdndaaGreatDoor
/-
 Functions of the program as pure Lean functions, and the ties; printed by wip/tools/emit.py.
-/
set_option maxRecDepth 100000
namespace Go.Proofs.YtmlkkgfenfdndaaGreatDoor
open Go Go.aG
/-! ### humpyard/humpyardref01.Make -/
abbrev mf (R:Type):Type:=Int→Int→(dH→Bool→Option R)→Option R
abbrev Jj:List bE := [.leaf (.int .i64), .leaf (.int .i64)]
abbrev Jk:List aA := []
def Nz {R:Type} (fn:mf R):bE.au Jj→aA.au Jk→(V→aO→Option R)→Option R:=fun x y k=>fn x.1 x.2.1 (fun q0 q1=>k (.tuple [.agg [.int .i64 q0.aF, .int .i64 q0.exp], .bool q1]) [])
def PF {R:Type} (fn:mf R):aG.Spec R→aG.Spec R:=bm Jj Jk (Nz fn)
abbrev oN (R:Type):Type:=Nat→Int→Int→dH→(Int→Int→dH→Option R)→(Int→Int→Bool→dH→Option R)→Option R
def xh {R:Type} (dq:Int→Int→dH→Option R) (x3:Int) (x4:Int) (x5:dH) (e0:Int→Int→dH→Option R) (e1:Int→Int→Bool→dH→Option R):Option R :=
 bif ((Int.tmod x3 10)==0)then (bif (decide (x4>(1099511627776:Int)))then (e1 (IntKind.i64.wrap (Int.tdiv x3 10)) x4 false (⟨0,0⟩:dH))else (dq (IntKind.i64.wrap (Int.tdiv x3 10)) (IntKind.i64.wrap (x4+1)) x5))else (e0 x3 x4 x5)
def cA {R:Type}:oN R
 | 0,_,_,_,_,_=>none
 | n+1,hY,hZ,iB,e0,e1=>xh (fun hY hZ iB=>cA n hY hZ iB e0 e1) hY hZ iB e0 e1
def xi:Hint := { live := [0,1,4],own := [],rows := [],cells := [],drop := [],out := [0,1,4,5] }
abbrev lu:Type:=Int × Int × dH
def uj:lu→St:=fun d=>⟨.int .i64 d.1 :: .int .i64 d.2.1::U 2 (.ptr 0 0::U 32 ([])), [.cells [.int .i64 d.2.2.aF, .int .i64 d.2.2.exp]]⟩
def Bv {R:Type} (K:Ex→St→Option R) (q0:Int) (q1:Int) (q2:dH):Option R:=K (.exit 0) ⟨.int .i64 q0 :: .int .i64 q1::U 2 (.ptr 0 0::U 32 ([])), [.cells [.int .i64 q2.aF, .int .i64 q2.exp]]⟩
def Bw {R:Type} (K:Ex→St→Option R) (q0:Int) (q1:Int) (q2:Bool) (q3:dH):Option R:=K (.ret) ⟨.int .i64 q0 :: .int .i64 q1::U 2 (.ptr 0 0 :: .bool q2::U 31 ([])), [.cells [.int .i64 q3.aF, .int .i64 q3.exp]]⟩
def CO {R:Type} (K:Ex→St→Option R) (rc:lu→Option R) (d:lu):Option R:=xh (fun z0 z1 z2=>rc (z0,z1,z2)) d.1 d.2.1 d.2.2 (Bv K) (Bw K)
def pT {R:Type} (K:Ex→St→Option R) (n:Nat) (d:lu):Option R:=cA n d.1 d.2.1 d.2.2 (Bv K) (Bw K)
abbrev lv:List bE := .leaf (.int .i64) :: .leaf (.int .i64)::PU 2 (.leaf (.ptr 0 0)::PU 32 ([]))
abbrev lx:List aA := [.cells [.int .i64, .int .i64]]
def CP (x:bE.au lv) (y:aA.au lx):Nat:=(Int.natAbs x.1+Int.natAbs x.2.1+dH.fu (⟨y.1.1,y.1.2.1⟩:dH)+64)
def CQ (x:bE.au lv) (y:aA.au lx):lu:=(x.1,x.2.1,(⟨y.1.1,y.1.2.1⟩:dH))
def Bx {R:Type} (L:oN R):bE.au lv→aA.au lx→(Ex→St→Option R)→Option R:=fun x y K=>L (CP x y) x.1 x.2.1 (⟨y.1.1,y.1.2.1⟩:dH) (Bv K) (Bw K)
def By (R:Type) (cA:oN R):Nat→Option (Hint × dC R):=fun i=>match i with
 | 3=>some (xi,(dx lv lx (Bx cA) j7))
 | _=>none
theorem MC {R:Type} (cA:oN R) (K:Ex→St→Option R) (rc:St→Option R) (d:lu):roundOf tt (dM []) (By R cA) 0 ((aT (aI Tryz.f117)).getD 0 .skip) xi (uj d) rc K=CO K (fun d=>rc (uj d)) d:=by kernel_rfl
theorem Kp {R:Type} (K:Ex→St→Option R) (n:Nat) (d:lu):pT K (n+1) d=CO K (pT K n) d:=by kernel_rfl
theorem Kq {R:Type} (K:Ex→St→Option R) (d:lu):pT K 0 d=none:=by kernel_rfl
theorem MD (x:bE.au lv) (y:aA.au lx):(⟨bE.eD lv x,aA.eD lx y⟩:St)=uj (CQ x y):=by kernel_rfl
theorem ME {R:Type} (x:bE.au lv) (y:aA.au lx) (K:Ex→St→Option R):Bx (cA) x y K=pT K (CP x y) (CQ x y):=by kernel_rfl
theorem PG {R:Type} (other:dC R) (ho:jt tt (dM []) (By R cA) 0 ((aT (aI Tryz.f117)).getD 0 .skip) xi other):jt tt (dM []) (By R cA) 0 ((aT (aI Tryz.f117)).getD 0 .skip) xi (dx lv lx (Bx (cA)) other) :=
 dL (A:=pT) ho (fw uj (CO) (pT) (Kq) (MC cA) (Kp)) CP CQ MD (ME)
def Bz {R:Type} (cA:oN R) (x1:Int) (x2:Int) (k0:dH→Bool→Option R):Option R :=
 bif (x1==0)then (k0 (⟨0,0⟩:dH) true)else (cA (Int.natAbs x1+Int.natAbs x2+dH.fu (⟨0,0⟩:dH)+64) x1 x2 (⟨0,0⟩:dH) (fun y6 y7 y8=>bif (decide (y6>(1000000000000000:Int)))then (k0 (⟨0,0⟩:dH) false)else (bif (decide (y6<(-1000000000000000:Int)))then (k0 (⟨0,0⟩:dH) false)else (bif (decide (y7>(9:Int)))then (k0 (⟨0,0⟩:dH) false)else (bif (decide (y7<(-9:Int)))then (k0 (⟨0,0⟩:dH) false)else (k0 (⟨y6,y7⟩:dH) true))))) (fun y9 rI rq qV=>k0 qV rq))
def cH {R:Type}:mf R:=fun x1 x2 k0=>Bz cA x1 x2 k0
theorem VX {R:Type} (cA:oN R):gS (R:=R) tt [] (By R cA) false Tryz.f117 (aI Tryz.f117) Jj Jk (Nz (Bz cA)):=fun x y k=>by kernel_rfl
theorem QW (R:Type):∀a∈aT (aI Tryz.f117),jn tt (dM []) (By R cA) 0 a:=by
 refine gR 1 (by kernel_rfl) fun i hi => ?_
 match i,hi with
 | 0,_=>exact cW (by kernel_rfl) (PG _ eN)
 | n+1,hi=>omega
theorem Sr (R:Type):sM Tryz.prog 117 (PF (cH (R:=R))):=cC TT mixed .n rfl rfl rfl rfl (QW R) (VX cA)
/-! ### humpyard/humpyardref02.one -/
abbrev rY (R:Type):Type:=ah→Int→(Int→Option R)→Option R
abbrev LL:List bE := [.leaf (.str), .leaf (.int .i64)]
abbrev LM:List aA := []
def PH {R:Type} (fn:rY R):bE.au LL→aA.au LM→(V→aO→Option R)→Option R:=fun x y k=>fn x.1 x.2.1 (fun q0=>k (.int .i64 q0) [])
def RO {R:Type} (fn:rY R):aG.Spec R→aG.Spec R:=bm LL LM (PH fn)
abbrev oO (R:Type):Type:=Nat→ah→Int→Int→Int→Int→Int→(Int→Int→Int→Option R)→(Int→Int→Int→Int→Option R)→Option R
def nS {R:Type} (dq:ah→Int→Int→Int→Int→Int→Option R) (PI:ah) (Kr:Int) (NA:Int) (rW:Int) (wk:Int) (nG:Int) (e0:Int→Int→Int→Option R) (e1:Int→Int→Int→Int→Option R):Option R :=
 bif (decide (nG<NA))then (cu (decide ((0:Int)≤(IntKind.i64.wrap (Kr+nG)))&&decide ((IntKind.i64.wrap (Kr+nG))<PI.length)) (bif ((IntKind.u8.wrap ((BitVec.ofInt IntKind.u8.bits ((PI.getD ((IntKind.i64.wrap (Kr+nG)).toNat) 0).toNat:Int) &&& BitVec.ofInt IntKind.u8.bits 192).toNat:Int)) != 128)then (e1 0 NA rW wk)else (cu (decide ((0:Int)≤(IntKind.i64.wrap (Kr+nG)))&&decide ((IntKind.i64.wrap (Kr+nG))<PI.length)) (dq PI Kr NA rW (IntKind.i64.wrap ((BitVec.ofInt IntKind.i64.bits (IntKind.i64.wrap (wk*2 ^ (min 6 IntKind.i64.bits))) ||| BitVec.ofInt IntKind.i64.bits (IntKind.i64.wrap (IntKind.u8.wrap ((BitVec.ofInt IntKind.u8.bits ((PI.getD ((IntKind.i64.wrap (Kr+nG)).toNat) 0).toNat:Int) &&& BitVec.ofInt IntKind.u8.bits 63).toNat:Int)))).toNat:Int)) (IntKind.i64.wrap (nG+1))))))else (e0 NA rW wk)
def bH {R:Type}:oO R
 | 0,_,_,_,_,_,_,_,_=>none
 | n+1,hY,hZ,iB,ql,E3,He,e0,e1=>nS (fun hY hZ iB ql E3 He=>bH n hY hZ iB ql E3 He e0 e1) hY hZ iB ql E3 He e0 e1
def xj:Hint := { live := [0,1,6,7,8,9],own := [],rows := [],cells := [],drop := [],out := [4,6,7,8] }
abbrev ly:Type:=ah × Int × Int × Int × Int × Int
def uk:ly→St:=fun d=>⟨.str d.1 :: .int .i64 d.2.1::U 4 (.int .i64 d.2.2.1 :: .int .i64 d.2.2.2.1 :: .int .i64 d.2.2.2.2.1 :: .int .i64 d.2.2.2.2.2::U 80 ([])), []⟩
def BA {R:Type} (K:Ex→St→Option R) (q0:Int) (q1:Int) (q2:Int):Option R:=K (.exit 1) ⟨U 6 (.int .i64 q0 :: .int .i64 q1 :: .int .i64 q2::U 81 ([])), []⟩
def BB {R:Type} (K:Ex→St→Option R) (q0:Int) (q1:Int) (q2:Int) (q3:Int):Option R:=K (.ret) ⟨U 4 (.int .i64 q0 :: .undef :: .int .i64 q1 :: .int .i64 q2 :: .int .i64 q3::U 81 ([])), []⟩
def CR {R:Type} (K:Ex→St→Option R) (rc:ly→Option R) (d:ly):Option R:=nS (fun z0 z1 z2 z3 z4 z5=>rc (z0,z1,z2,z3,z4,z5)) d.1 d.2.1 d.2.2.1 d.2.2.2.1 d.2.2.2.2.1 d.2.2.2.2.2 (BA K) (BB K)
def pU {R:Type} (K:Ex→St→Option R) (n:Nat) (d:ly):Option R:=bH n d.1 d.2.1 d.2.2.1 d.2.2.2.1 d.2.2.2.2.1 d.2.2.2.2.2 (BA K) (BB K)
abbrev lz:List bE := .leaf (.str) :: .leaf (.int .i64)::PU 4 (.leaf (.int .i64) :: .leaf (.int .i64) :: .leaf (.int .i64) :: .leaf (.int .i64)::PU 80 ([]))
abbrev lA:List aA := []
def CS (x:bE.au lz) (y:aA.au lA):Nat:=(List.length x.1+Int.natAbs x.2.1+Int.natAbs x.2.2.2.2.2.2.1+Int.natAbs x.2.2.2.2.2.2.2.1+Int.natAbs x.2.2.2.2.2.2.2.2.1+Int.natAbs x.2.2.2.2.2.2.2.2.2.1+64)
def CT (x:bE.au lz) (y:aA.au lA):ly:=(x.1,x.2.1,x.2.2.2.2.2.2.1,x.2.2.2.2.2.2.2.1,x.2.2.2.2.2.2.2.2.1,x.2.2.2.2.2.2.2.2.2.1)
def BC {R:Type} (L:oO R):bE.au lz→aA.au lA→(Ex→St→Option R)→Option R:=fun x y K=>L (CS x y) x.1 x.2.1 x.2.2.2.2.2.2.1 x.2.2.2.2.2.2.2.1 x.2.2.2.2.2.2.2.2.1 x.2.2.2.2.2.2.2.2.2.1 (BA K) (BB K)
def DU (R:Type) (bH:oO R):Nat→Option (Hint × dC R):=fun i=>match i with
 | 23=>some (xj,(dx lz lA (BC bH) j7))
 | _=>none
theorem MF {R:Type} (bH:oO R) (K:Ex→St→Option R) (rc:St→Option R) (d:ly):roundOf tt (dM []) (DU R bH) 0 ((aT (aI Tryz.f118)).getD 0 .skip) xj (uk d) rc K=CR K (fun d=>rc (uk d)) d:=by kernel_rfl
theorem Ks {R:Type} (K:Ex→St→Option R) (n:Nat) (d:ly):pU K (n+1) d=CR K (pU K n) d:=by kernel_rfl
theorem Kt {R:Type} (K:Ex→St→Option R) (d:ly):pU K 0 d=none:=by kernel_rfl
theorem MG (x:bE.au lz) (y:aA.au lA):(⟨bE.eD lz x,aA.eD lA y⟩:St)=uk (CT x y):=by kernel_rfl
theorem MH {R:Type} (x:bE.au lz) (y:aA.au lA) (K:Ex→St→Option R):BC (bH) x y K=pU K (CS x y) (CT x y):=by kernel_rfl
theorem PJ {R:Type} (other:dC R) (ho:jt tt (dM []) (DU R bH) 0 ((aT (aI Tryz.f118)).getD 0 .skip) xj other):jt tt (dM []) (DU R bH) 0 ((aT (aI Tryz.f118)).getD 0 .skip) xj (dx lz lA (BC (bH)) other) :=
 dL (A:=pU) ho (fw uk (CR) (pU) (Kt) (MF bH) (Ks)) CS CT MG (MH)
def GU {R:Type} (bH:oO R) (x1:ah) (x2:Int) (k0:Int→Option R):Option R :=
 cu (decide ((0:Int)≤x2)&&decide (x2<x1.length)) (let j26:=fun (z9:Int) (uO:Int) (sn:Int)=>bif (decide ((IntKind.i64.wrap (x2+z9))>(x1.length:Int)))then (k0 0)else (bH (List.length x1+Int.natAbs x2+Int.natAbs z9+Int.natAbs uO+Int.natAbs sn+Int.natAbs 1+64) x1 x2 z9 uO sn 1 (fun Iu UA Nv=>bif (decide (Nv<UA))then (k0 0)else (bif (decide (Nv>(1114111:Int)))then (k0 0)else (bif (decide (Nv≥(55296:Int)))then (bif (decide (Nv≤(57343:Int)))then (k0 0)else (k0 Iu))else (k0 Iu)))) (fun CK y22 Ya y24=>k0 CK)); bif (decide (((x1.getD x2.toNat 0).toNat:Int)<(128:Int)))then (k0 1)else (let j8:=fun (z3:Bool)=>bif z3 then (j26 2 128 (IntKind.i64.wrap (IntKind.u8.wrap ((BitVec.ofInt IntKind.u8.bits ((x1.getD x2.toNat 0).toNat:Int) &&& BitVec.ofInt IntKind.u8.bits 31).toNat:Int))))else (bif (decide (((x1.getD x2.toNat 0).toNat:Int)≥(224:Int)))then (bif (decide (((x1.getD x2.toNat 0).toNat:Int)≤(239:Int)))then (j26 3 2048 (IntKind.i64.wrap (IntKind.u8.wrap ((BitVec.ofInt IntKind.u8.bits ((x1.getD x2.toNat 0).toNat:Int) &&& BitVec.ofInt IntKind.u8.bits 15).toNat:Int))))else (bif (decide (((x1.getD x2.toNat 0).toNat:Int)≥(240:Int)))then (bif (decide (((x1.getD x2.toNat 0).toNat:Int)≤(244:Int)))then (j26 4 65536 (IntKind.i64.wrap (IntKind.u8.wrap ((BitVec.ofInt IntKind.u8.bits ((x1.getD x2.toNat 0).toNat:Int) &&& BitVec.ofInt IntKind.u8.bits 7).toNat:Int))))else (k0 0))else (k0 0)))else (bif (decide (((x1.getD x2.toNat 0).toNat:Int)≥(240:Int)))then (bif (decide (((x1.getD x2.toNat 0).toNat:Int)≤(244:Int)))then (j26 4 65536 (IntKind.i64.wrap (IntKind.u8.wrap ((BitVec.ofInt IntKind.u8.bits ((x1.getD x2.toNat 0).toNat:Int) &&& BitVec.ofInt IntKind.u8.bits 7).toNat:Int))))else (k0 0))else (k0 0))); bif (decide (((x1.getD x2.toNat 0).toNat:Int)≥(194:Int)))then (j8 (decide (((x1.getD x2.toNat 0).toNat:Int)≤(223:Int))))else (j8 false)))
def gP {R:Type}:rY R:=fun x1 x2 k0=>GU bH x1 x2 k0
theorem Yi {R:Type} (bH:oO R):gS (R:=R) tt [] (DU R bH) false Tryz.f118 (aI Tryz.f118) LL LM (PH (GU bH)):=fun x y k=>by kernel_rfl
theorem Ss (R:Type):∀a∈aT (aI Tryz.f118),jn tt (dM []) (DU R bH) 0 a:=by
 refine gR 1 (by kernel_rfl) fun i hi => ?_
 match i,hi with
 | 0,_=>exact cW (by kernel_rfl) (PJ _ eN)
 | n+1,hi=>omega
theorem UH (R:Type):sM Tryz.prog 118 (RO (gP (R:=R))):=cC TT mixed .n rfl rfl rfl rfl (Ss R) (Yi bH)
/-! ### humpyard/humpyardref04.has -/
abbrev pj (R:Type):Type:=(List ah)→ah→(Bool→Option R)→Option R
abbrev LN:List bE := [.leaf (.sl .str), .leaf (.str)]
abbrev LO:List aA := []
def PK {R:Type} (fn:pj R):bE.au LN→aA.au LO→(V→aO→Option R)→Option R:=fun x y k=>fn x.1 x.2.1 (fun q0=>k (.bool q0) [])
def RP {R:Type} (fn:pj R):aG.Spec R→aG.Spec R:=bm LN LO (PK fn)
abbrev pV (R:Type):Type:=Nat→(List ah)→ah→Int→(Option R)→(Bool→Option R)→Option R
def zy {R:Type} (dq:(List ah)→ah→Int→Option R) (x3:List ah) (x4:ah) (x5:Int) (e0:Option R) (e1:Bool→Option R):Option R :=
 bif (decide (x5<(x3.length:Int)))then (cu (decide ((0:Int)≤x5)&&decide (x5<x3.length)) (bif ((x3.getD x5.toNat (Ty.bU .str))==x4)then (e1 true)else (dq x3 x4 (IntKind.i64.wrap (x5+1)))))else (e0)
def du {R:Type}:pV R
 | 0,_,_,_,_,_=>none
 | n+1,hY,hZ,iB,e0,e1=>zy (fun hY hZ iB=>du n hY hZ iB e0 e1) hY hZ iB e0 e1
def zz:Hint := { live := [0,1,5],own := [],rows := [],cells := [],drop := [],out := [4] }
abbrev nc:Type:=(List ah) × ah × Int
def vQ:nc→St:=fun d=>⟨.sl .str d.1 .no :: .str d.2.1::U 3 (.int .i64 d.2.2::U 12 ([])), []⟩
def CU {R:Type} (K:Ex→St→Option R):Option R:=K (.exit 0) ⟨U 18 ([]), []⟩
def CV {R:Type} (K:Ex→St→Option R) (q0:Bool):Option R:=K (.ret) ⟨U 4 (.bool q0::U 13 ([])), []⟩
def Er {R:Type} (K:Ex→St→Option R) (rc:nc→Option R) (d:nc):Option R:=zy (fun z0 z1 z2=>rc (z0,z1,z2)) d.1 d.2.1 d.2.2 (CU K) (CV K)
def rE {R:Type} (K:Ex→St→Option R) (n:Nat) (d:nc):Option R:=du n d.1 d.2.1 d.2.2 (CU K) (CV K)
abbrev nd:List bE := .leaf (.sl .str) :: .leaf (.str)::PU 3 (.leaf (.int .i64)::PU 12 ([]))
abbrev nf:List aA := []
def Es (x:bE.au nd) (y:aA.au nf):Nat:=(List.length x.1+List.length x.2.1+Int.natAbs x.2.2.2.2.2.1+64)
def Et (x:bE.au nd) (y:aA.au nf):nc:=(x.1,x.2.1,x.2.2.2.2.2.1)
def CW {R:Type} (L:pV R):bE.au nd→aA.au nf→(Ex→St→Option R)→Option R:=fun x y K=>L (Es x y) x.1 x.2.1 x.2.2.2.2.2.1 (CU K) (CV K)
def DV (R:Type) (du:pV R):Nat→Option (Hint × dC R):=fun i=>match i with
 | 2=>some (zz,(dx nd nf (CW du) j7))
 | _=>none
theorem Ov {R:Type} (du:pV R) (K:Ex→St→Option R) (rc:St→Option R) (d:nc):roundOf tt (dM []) (DV R du) 0 ((aT (aI Tryz.f83)).getD 0 .skip) zz (vQ d) rc K=Er K (fun d=>rc (vQ d)) d:=by kernel_rfl
theorem LP {R:Type} (K:Ex→St→Option R) (n:Nat) (d:nc):rE K (n+1) d=Er K (rE K n) d:=by kernel_rfl
theorem LQ {R:Type} (K:Ex→St→Option R) (d:nc):rE K 0 d=none:=by kernel_rfl
theorem Ow (x:bE.au nd) (y:aA.au nf):(⟨bE.eD nd x,aA.eD nf y⟩:St)=vQ (Et x y):=by kernel_rfl
theorem Ox {R:Type} (x:bE.au nd) (y:aA.au nf) (K:Ex→St→Option R):CW (du) x y K=rE K (Es x y) (Et x y):=by kernel_rfl
theorem QX {R:Type} (other:dC R) (ho:jt tt (dM []) (DV R du) 0 ((aT (aI Tryz.f83)).getD 0 .skip) zz other):jt tt (dM []) (DV R du) 0 ((aT (aI Tryz.f83)).getD 0 .skip) zz (dx nd nf (CW (du)) other) :=
 dL (A:=rE) ho (fw vQ (Er) (rE) (LQ) (Ov du) (LP)) Es Et Ow (Ox)
def RQ {R:Type} (du:pV R) (x1:List ah) (x2:ah) (k0:Bool→Option R):Option R :=
 du (List.length x1+List.length x2+Int.natAbs 0+64) x1 x2 0 (k0 false) (fun y6=>k0 y6)
def fC {R:Type}:pj R:=fun x1 x2 k0=>RQ du x1 x2 k0
theorem Yj {R:Type} (du:pV R):gS (R:=R) tt [] (DV R du) false Tryz.f83 (aI Tryz.f83) LN LO (PK (RQ du)):=fun x y k=>by kernel_rfl
theorem Su (R:Type):∀a∈aT (aI Tryz.f83),jn tt (dM []) (DV R du) 0 a:=by
 refine gR 1 (by kernel_rfl) fun i hi => ?_
 match i,hi with
 | 0,_=>exact cW (by kernel_rfl) (QX _ eN)
 | n+1,hi=>omega
theorem UI (R:Type):sM Tryz.prog 83 (RP (fC (R:=R))):=cC TT mixed .n rfl rfl rfl rfl (Su R) (Yj du)
end Go.Proofs.YtmlkkgfenfdndaaGreatDoor
/-
 Functions of the program as pure Lean functions, and the ties; printed by wip/tools/emit.py.
-/
set_option maxRecDepth 100000
namespace Go.Proofs.YtmlkkgfenfdndaaGreatDoor
open Go Go.aG
end Go.Proofs.YtmlkkgfenfdndaaGreatDoor
/-
 Functions of the program as pure Lean functions, and the ties; printed by wip/tools/emit.py.
-/
set_option maxRecDepth 100000
namespace Go.Proofs.YtmlkkgfenfdndaaGreatDoor
open Go Go.aG
end Go.Proofs.YtmlkkgfenfdndaaGreatDoor
set_option maxRecDepth 100000
namespace Go.Proofs.YtmlkkgfenfdndaaGreatDoor
open Go Go.aG Go.Lib
theorem top2:∀b:Fin 256,(IntKind.u8.wrap ((BitVec.ofInt IntKind.u8.bits (b.val:Int) &&& BitVec.ofInt IntKind.u8.bits 192).toNat:Int) != 128)=decide (b.val / 64≠2):=by decide +kernel
theorem and31:∀b:Fin 256,IntKind.i64.wrap (IntKind.u8.wrap ((BitVec.ofInt IntKind.u8.bits (b.val:Int) &&& BitVec.ofInt IntKind.u8.bits 31).toNat:Int))=((b.val % 32:Nat):Int):=by decide +kernel
theorem and15b:∀b:Fin 256,IntKind.i64.wrap (IntKind.u8.wrap ((BitVec.ofInt IntKind.u8.bits (b.val:Int) &&& BitVec.ofInt IntKind.u8.bits 15).toNat:Int))=((b.val % 16:Nat):Int):=by decide +kernel
theorem and7:∀b:Fin 256,IntKind.i64.wrap (IntKind.u8.wrap ((BitVec.ofInt IntKind.u8.bits (b.val:Int) &&& BitVec.ofInt IntKind.u8.bits 7).toNat:Int))=((b.val % 8:Nat):Int):=by decide +kernel
theorem of64 (n:Nat) (h:n<18446744073709551616):(BitVec.ofInt IntKind.i64.bits (n:Int)).toNat=n:=by
 rw[BitVec.toNat_ofInt]
 show ((n:Int) % ((2 ^ 64:Nat):Int)).toNat=n
 omega
theorem or6 (v x:Nat) (hv:v<1073741824) (hx:x<64) :
  IntKind.i64.wrap ((BitVec.ofInt IntKind.i64.bits (IntKind.i64.wrap ((v:Int)*2 ^ (min 6 IntKind.i64.bits))) ||| BitVec.ofInt IntKind.i64.bits (IntKind.i64.wrap (x:Int))).toNat:Int)=((v*64+x:Nat):Int):=by
 have e:(v:Int)*2 ^ (min 6 IntKind.i64.bits)=((v*64:Nat):Int):=by
  show (v:Int)*2 ^ 6=_
  omega
 rw[e,bw (n:=((v*64:Nat):Int)) (by omega) (by omega),bw (n:=(x:Int)) (by omega) (by omega),BitVec.toNat_or,of64 _ (by omega),of64 _ (by omega)]
 have h2:v*64 ||| x=v*64+x:=by
  have:=Nat.two_pow_add_eq_or_of_lt (i:=6) (b:=x) (by omega) v
  rw[show (2:Nat) ^ 6=64 from rfl]at this
  rw[Nat.mul_comm v 64]
  exact this.symm
 rw[h2,bw (by omega) (by omega)]
theorem FE {R:Type} {s:ah} {i n low v k:Nat} (hs:s.length≤9000000000000000) (hk:k<n) (hi:i+k<s.length) (hv:v<1073741824) (dq:ah→Int→Int→Int→Int→Int→Option R) (e0:Int→Int→Int→Option R) (e1:Int→Int→Int→Int→Option R) :
  nS dq s (i:Int) (n:Int) (low:Int) (v:Int) (k:Int) e0 e1=if (s.getD (i+k) 0).toNat / 64=2 then dq s (i:Int) (n:Int) (low:Int) ((v*64+(s.getD (i+k) 0).toNat % 64:Nat):Int) ((k+1:Nat):Int)else e1 0 (n:Int) (low:Int) (v:Int):=by
 unfold nS
 have hw:IntKind.i64.wrap ((i:Int)+(k:Int))=((i+k:Nat):Int):=by rw[bw (by omega) (by omega)]; omega
 have hk1:IntKind.i64.wrap ((k:Int)+1)=((k+1:Nat):Int):=by rw[bw (by omega) (by omega)]; omega
 rw[hw,hk1,Int.toNat_natCast,aB (show (k:Int)<(n:Int) by omega),cond_true,aS (by rw[aB (by omega),aB (by omega)]; rfl)]
 have hb:=UInt8.toNat_lt (s.getD (i+k) 0)
 generalize (s.getD (i+k) 0).toNat=b at *
 have t:=top2 ⟨b,hb⟩
 simp only at t
 rw[t]
 by_cases h:b / 64=2
 ·rw[aV (show ¬b / 64≠2 by omega),cond_false,if_pos h,aS (by rw[aB (by omega),aB (by omega)]; rfl)]
  have a:=and63 ⟨b,hb⟩
  simp only at a
  rw[a,or6 v (b % 64) hv (Nat.mod_lt _ (by omega))]
 ·rw[aB h,cond_true,if_neg h]
def Z5 (t:ah):Nat:=if Pe t then (decodeL t).2 else 0
def tail (low v n:Nat):Nat:=if v<low∨1114111<v∨(55296≤v∧v≤57343)then 0 else n
theorem Yk {R:Type} (low v n:Nat) (k:Int→Option R):(bif (decide ((v:Int)<(low:Int)))then (k 0)else (bif (decide ((v:Int)>(1114111:Int)))then (k 0)else (bif (decide ((v:Int)≥(55296:Int)))then (bif (decide ((v:Int)≤(57343:Int)))then (k 0)else (k (n:Int)))else (k (n:Int)))))=k (tail low v n:Int):=by
 unfold tail
 by_cases h1:v<low
 ·rw[aB (show (v:Int)<(low:Int) by omega),if_pos (.inl h1)]; rfl
 rw[aV (show ¬(v:Int)<(low:Int) by omega),cond_false]
 by_cases h2:1114111<v
 ·rw[aB (show (v:Int)>1114111 by omega),if_pos (.inr (.inl h2))]; rfl
 rw[aV (show ¬(v:Int)>1114111 by omega),cond_false]
 by_cases h3:55296≤v
 ·rw[aB (show (v:Int)≥55296 by omega),cond_true]
  by_cases h4:v≤57343
  ·rw[aB (show (v:Int)≤57343 by omega),if_pos (.inr (.inr ⟨h3,h4⟩))]; rfl
  ·rw[aV (show ¬(v:Int)≤57343 by omega),if_neg (by omega)]; rfl
 ·rw[aV (show ¬(v:Int)≥55296 by omega),if_neg (by omega)]; rfl
def refN (l b0 b1 b2 b3:Nat):Nat :=
 if b0<128 then 1
 else if 194≤b0∧b0≤223 then (if l<2 then 0 else if b1 / 64=2 then tail 128 (b0 % 32*64+b1 % 64) 2 else 0)
 else if 224≤b0∧b0≤239 then (if l<3 then 0 else if b1 / 64=2 then (if b2 / 64=2 then tail 2048 ((b0 % 16*64+b1 % 64)*64+b2 % 64) 3 else 0)else 0)
 else if 240≤b0∧b0≤244 then (if l<4 then 0 else if b1 / 64=2 then (if b2 / 64=2 then (if b3 / 64=2 then tail 65536 (((b0 % 8*64+b1 % 64)*64+b2 % 64)*64+b3 % 64) 4 else 0)else 0)else 0)
 else 0
set_option maxHeartbeats 4000000 in
theorem refN_eq (l b0 b1 b2 b3:Nat) (hl:1≤l) (h0:b0<256) (h1:b1<256) (h2:b2<256) (h3:b3<256) :
  refN l b0 b1 b2 b3=if (decodeN l b0 b1 b2 b3).1=65533∧(decodeN l b0 b1 b2 b3).2=1 then 0 else (decodeN l b0 b1 b2 b3).2:=by
 unfold refN tail decodeN
 by_cases c0:b0<128
 ·simp only[c0,if_true]
  rw[if_neg (by omega)]
 simp only[c0,if_false]
 by_cases c1:194≤b0∧b0≤223
 ·simp only[c1,and_self,if_true]
  have d6:b0 / 32=6:=by omega
  have d14:¬b0 / 16=14:=by omega
  have d30:¬b0 / 8=30:=by omega
  simp only[d6,d14,d30,true_and,false_and,if_false]
  (repeat' split) <;> first|rfl|omega|(simp at *; omega)
 simp only[c1,if_false]
 by_cases c2:224≤b0∧b0≤239
 ·simp only[c2,and_self,if_true]
  have d6:¬b0 / 32=6:=by omega
  have d14:b0 / 16=14:=by omega
  have d30:¬b0 / 8=30:=by omega
  simp only[d6,d14,d30,true_and,false_and,if_false]
  have hv:(b0 % 16*64+b1 % 64)*64+b2 % 64=b0 % 16*4096+b1 % 64*64+b2 % 64:=by omega
  rw[hv]
  generalize b0 % 16*4096+b1 % 64*64+b2 % 64=v
  (repeat' split) <;> first|rfl|omega|(simp at *; omega)
 simp only[c2,if_false]
 by_cases c3:240≤b0∧b0≤244
 ·simp only[c3,and_self,if_true]
  have d6:¬b0 / 32=6:=by omega
  have d14:¬b0 / 16=14:=by omega
  have d30:b0 / 8=30:=by omega
  simp only[d6,d14,d30,true_and,false_and,if_false]
  have hv:((b0 % 8*64+b1 % 64)*64+b2 % 64)*64+b3 % 64=b0 % 8*262144+b1 % 64*4096+b2 % 64*64+b3 % 64:=by omega
  rw[hv]
  generalize b0 % 8*262144+b1 % 64*4096+b2 % 64*64+b3 % 64=v
  (repeat' split) <;> first|rfl|omega|(simp at *; omega)
 simp only[c3,if_false]
 (repeat' split) <;> first|rfl|omega|(simp at *; omega)
theorem PL {R:Type} (n:Nat) (s:ah) (a b c d e:Int) (e0:Int→Int→Int→Option R) (e1:Int→Int→Int→Int→Option R) :
  bH (n+1) s a b c d e e0 e1=nS (fun hY hZ iB ql E3 He=>bH n hY hZ iB ql E3 He e0 e1) s a b c d e e0 e1:=rfl
theorem Yl {R:Type} (s:ah) (i n low v:Int) (dq:ah→Int→Int→Int→Int→Int→Option R) (e0:Int→Int→Int→Option R) (e1:Int→Int→Int→Int→Option R) :
  nS dq s i n low v n e0 e1=e0 n low v:=by
 unfold nS
 rw[aV (Int.lt_irrefl _),cond_false]
theorem one2 {R:Type} {s:ah} {i low v F:Nat} (hs:s.length≤9000000000000000) (hi:i+2≤s.length) (hv:v<64) (hF:3≤F) (e0:Int→Int→Int→Option R) (e1:Int→Int→Int→Int→Option R) :
  bH F s (i:Int) 2 (low:Int) (v:Int) 1 e0 e1=if (s.getD (i+1) 0).toNat / 64=2 then e0 2 (low:Int) ((v*64+(s.getD (i+1) 0).toNat % 64:Nat):Int)else e1 0 2 (low:Int) (v:Int):=by
 obtain ⟨n,rfl⟩:∃n,F=n+2:=⟨F - 2,by omega⟩
 rw[PL]
 refine (FE (n:=2) (k:=1) hs (by omega) (by omega) (by omega) _ e0 e1).trans ?_
 by_cases h:(s.getD (i+1) 0).toNat / 64=2
 ·rw[if_pos h,if_pos h]
  show bH (n+1) s (i:Int) ((2:Nat):Int) (low:Int) _ ((1+1:Nat):Int) e0 e1=_
  rw[PL]
  exact Yl s i 2 low _ _ e0 e1
 ·rw[if_neg h,if_neg h]; rfl
theorem one3 {R:Type} {s:ah} {i low v F:Nat} (hs:s.length≤9000000000000000) (hi:i+3≤s.length) (hv:v<64) (hF:4≤F) (e0:Int→Int→Int→Option R) (k:Int→Option R) :
  bH F s (i:Int) 3 (low:Int) (v:Int) 1 e0 (fun CK _ _ _=>k CK)=if (s.getD (i+1) 0).toNat / 64=2 then (if (s.getD (i+2) 0).toNat / 64=2 then e0 3 (low:Int) (((v*64+(s.getD (i+1) 0).toNat % 64)*64+(s.getD (i+2) 0).toNat % 64:Nat):Int)else k 0)else k 0:=by
 obtain ⟨n,rfl⟩:∃n,F=n+3:=⟨F - 3,by omega⟩
 rw[PL]
 refine (FE (n:=3) (k:=1) hs (by omega) (by omega) (by omega) _ e0 _).trans ?_
 by_cases h:(s.getD (i+1) 0).toNat / 64=2
 ·rw[if_pos h,if_pos h]
  show bH (n+2) s (i:Int) ((3:Nat):Int) (low:Int) _ ((2:Nat):Int) e0 _=_
  rw[PL]
  refine (FE (n:=3) (k:=2) hs (by omega) (by omega) (by omega) _ e0 _).trans ?_
  by_cases h2:(s.getD (i+2) 0).toNat / 64=2
  ·rw[if_pos h2,if_pos h2]
   show bH (n+1) s (i:Int) ((3:Nat):Int) (low:Int) _ ((3:Nat):Int) e0 _=_
   rw[PL]
   exact Yl s i 3 low _ _ e0 _
  ·rw[if_neg h2,if_neg h2]
 ·rw[if_neg h,if_neg h]
theorem one4 {R:Type} {s:ah} {i low v F:Nat} (hs:s.length≤9000000000000000) (hi:i+4≤s.length) (hv:v<64) (hF:5≤F) (e0:Int→Int→Int→Option R) (k:Int→Option R) :
  bH F s (i:Int) 4 (low:Int) (v:Int) 1 e0 (fun CK _ _ _=>k CK)=if (s.getD (i+1) 0).toNat / 64=2 then (if (s.getD (i+2) 0).toNat / 64=2 then (if (s.getD (i+3) 0).toNat / 64=2 then
   e0 4 (low:Int) ((((v*64+(s.getD (i+1) 0).toNat % 64)*64+(s.getD (i+2) 0).toNat % 64)*64+(s.getD (i+3) 0).toNat % 64:Nat):Int)else k 0)else k 0)else k 0:=by
 obtain ⟨n,rfl⟩:∃n,F=n+4:=⟨F - 4,by omega⟩
 rw[PL]
 refine (FE (n:=4) (k:=1) hs (by omega) (by omega) (by omega) _ e0 _).trans ?_
 by_cases h:(s.getD (i+1) 0).toNat / 64=2
 ·rw[if_pos h,if_pos h]
  show bH (n+3) s (i:Int) ((4:Nat):Int) (low:Int) _ ((2:Nat):Int) e0 _=_
  rw[PL]
  refine (FE (n:=4) (k:=2) hs (by omega) (by omega) (by omega) _ e0 _).trans ?_
  by_cases h2:(s.getD (i+2) 0).toNat / 64=2
  ·rw[if_pos h2,if_pos h2]
   show bH (n+2) s (i:Int) ((4:Nat):Int) (low:Int) _ ((3:Nat):Int) e0 _=_
   rw[PL]
   refine (FE (n:=4) (k:=3) hs (by omega) (by omega) (by omega) _ e0 _).trans ?_
   by_cases h3:(s.getD (i+3) 0).toNat / 64=2
   ·rw[if_pos h3,if_pos h3]
    show bH (n+1) s (i:Int) ((4:Nat):Int) (low:Int) _ ((4:Nat):Int) e0 _=_
    rw[PL]
    exact Yl s i 4 low _ _ e0 _
   ·rw[if_neg h3,if_neg h3]
  ·rw[if_neg h2,if_neg h2]
 ·rw[if_neg h,if_neg h]
theorem F0 (s:ah) (i j:Nat):(s.drop i).getD j 0=s.getD (i+j) 0:=by simp[List.getD,List.getElem?_drop]
theorem oneN_ref (s:ah) (i:Nat) (hi:i<s.length):Z5 (s.drop i)=refN (s.length - i) (s.getD i 0).toNat (s.getD (i+1) 0).toNat (s.getD (i+2) 0).toNat (s.getD (i+3) 0).toNat:=by
 rw[refN_eq _ _ _ _ _ (by omega) (UInt8.toNat_lt _) (UInt8.toNat_lt _) (UInt8.toNat_lt _) (UInt8.toNat_lt _)]
 have e:decodeL (s.drop i)=decodeN (s.length - i) (s.getD i 0).toNat (s.getD (i+1) 0).toNat (s.getD (i+2) 0).toNat (s.getD (i+3) 0).toNat:=by
  rw[decodeL_N,List.length_drop,F0,F0,F0,F0,Nat.add_zero]
 unfold Z5
 by_cases h:Pe (s.drop i)
 ·rw[if_pos h]
  unfold Pe at h
  rw[e]at h ⊢
  rw[if_neg h]
 ·rw[if_neg h]
  have h':=Decidable.not_not.1 h
  rw[e]at h'
  rw[if_pos h']
theorem one_ok {R:Type} (s:ah) (i:Nat) (hi:i<s.length) (hs:s.length≤9000000000000000) (k:Int→Option R):gP s (i:Int) k=k (Z5 (s.drop i):Int):=by
 have e:gP s (i:Int) k=GU bH s (i:Int) k:=rfl
 rw[e,oneN_ref s i hi]
 unfold GU
 rw[aS (by rw[aB (by omega),aB (by omega)]; rfl)]
 dsimp only
 rw[Int.toNat_natCast]
 have hb:=UInt8.toNat_lt (s.getD i 0)
 have hF:∀a b c d e:Nat,5≤a+b+c+d+e+Int.natAbs 1+64:=fun a b c d e=>by omega
 unfold refN
 have L2:=fun F (hF:3≤F) low v (hv:v<64) (h:i+2≤s.length) e0=>one2 (R:=R) (low:=low) hs h hv hF e0 (fun CK _ _ _=>k CK)
 have L3:=fun F (hF:4≤F) low v (hv:v<64) (h:i+3≤s.length) e0=>one3 (R:=R) (low:=low) hs h hv hF e0 k
 have L4:=fun F (hF:5≤F) low v (hv:v<64) (h:i+4≤s.length) e0=>one4 (R:=R) (low:=low) hs h hv hF e0 k
 have a31:=and31 ⟨(s.getD i 0).toNat,hb⟩
 have a15:=and15b ⟨(s.getD i 0).toNat,hb⟩
 have a7:=and7 ⟨(s.getD i 0).toNat,hb⟩
 simp only at a31 a15 a7
 rw[a31,a15,a7]
 generalize (s.getD i 0).toNat=b at *
 have w2:IntKind.i64.wrap ((i:Int)+2)=((i+2:Nat):Int):=by rw[bw (by omega) (by omega)]; omega
 have w3:IntKind.i64.wrap ((i:Int)+3)=((i+3:Nat):Int):=by rw[bw (by omega) (by omega)]; omega
 have w4:IntKind.i64.wrap ((i:Int)+4)=((i+4:Nat):Int):=by rw[bw (by omega) (by omega)]; omega
 rw[w2,w3,w4]
 by_cases c0:b<128
 ·rw[aB (show (b:Int)<128 by omega),cond_true,if_pos c0]; rfl
 rw[aV (show ¬(b:Int)<128 by omega),cond_false,if_neg c0]
 by_cases c1:194≤b∧b≤223
 ·rw[aB (show (b:Int)≥194 by omega),cond_true,aB (show (b:Int)≤223 by omega),cond_true,if_pos c1]
  by_cases hl:s.length - i<2
  ·rw[aB (show ((i+2:Nat):Int)>(s.length:Int) by omega),cond_true,if_pos hl]; rfl
  ·rw[aV (show ¬((i+2:Nat):Int)>(s.length:Int) by omega),cond_false,if_neg hl]
   refine (L2 _ (by omega) 128 (b % 32) (by omega) (by omega) _).trans ?_
   by_cases h:(s.getD (i+1) 0).toNat / 64=2
   ·rw[if_pos h,if_pos h]
    exact Yk 128 _ 2 k
   ·rw[if_neg h,if_neg h]; rfl
 rw[if_neg c1]
 have j8:∀x z:Option R,(bif (decide ((b:Int)≥194))then (bif (decide ((b:Int)≤223))then x else z)else z)=z:=by
  intro x z
  by_cases h:(b:Int)≥194
  ·rw[aB h,cond_true,aV (show ¬(b:Int)≤223 by omega),cond_false]
  ·rw[aV h,cond_false]
 simp only[cond_false]
 rw[j8]
 by_cases c2:224≤b∧b≤239
 ·rw[aB (show (b:Int)≥224 by omega),cond_true,aB (show (b:Int)≤239 by omega),cond_true,if_pos c2]
  by_cases hl:s.length - i<3
  ·rw[aB (show ((i+3:Nat):Int)>(s.length:Int) by omega),cond_true,if_pos hl]; rfl
  ·rw[aV (show ¬((i+3:Nat):Int)>(s.length:Int) by omega),cond_false,if_neg hl]
   refine (L3 _ (by omega) 2048 (b % 16) (by omega) (by omega) _).trans ?_
   by_cases h:(s.getD (i+1) 0).toNat / 64=2
   ·rw[if_pos h,if_pos h]
    by_cases h2:(s.getD (i+2) 0).toNat / 64=2
    ·rw[if_pos h2,if_pos h2]
     exact Yk 2048 _ 3 k
    ·rw[if_neg h2,if_neg h2]; rfl
   ·rw[if_neg h,if_neg h]; rfl
 rw[if_neg c2]
 by_cases c3:240≤b∧b≤244
 ·have fin:(bif (decide (((i+4:Nat):Int)>(s.length:Int)))then (k 0)else (bH (List.length s+Int.natAbs (i:Int)+Int.natAbs 4+Int.natAbs 65536+Int.natAbs ((b % 8:Nat):Int)+Int.natAbs 1+64) s (i:Int) 4 65536 ((b % 8:Nat):Int) 1 (fun Iu UA Nv=>bif (decide (Nv<UA))then (k 0)else (bif (decide (Nv>(1114111:Int)))then (k 0)else (bif (decide (Nv≥(55296:Int)))then (bif (decide (Nv≤(57343:Int)))then (k 0)else (k Iu))else (k Iu)))) (fun CK y22 Ya y24=>k CK))) =
   k ((if s.length - i<4 then 0 else if (s.getD (i+1) 0).toNat / 64=2 then (if (s.getD (i+2) 0).toNat / 64=2 then (if (s.getD (i+3) 0).toNat / 64=2 then tail 65536 (((b % 8*64+(s.getD (i+1) 0).toNat % 64)*64+(s.getD (i+2) 0).toNat % 64)*64+(s.getD (i+3) 0).toNat % 64) 4 else 0)else 0)else 0:Nat):Int):=by
   by_cases hl:s.length - i<4
   ·rw[aB (show ((i+4:Nat):Int)>(s.length:Int) by omega),cond_true,if_pos hl]; rfl
   ·rw[aV (show ¬((i+4:Nat):Int)>(s.length:Int) by omega),cond_false,if_neg hl]
    refine (L4 _ (by omega) 65536 (b % 8) (by omega) (by omega) _).trans ?_
    by_cases h:(s.getD (i+1) 0).toNat / 64=2
    ·rw[if_pos h,if_pos h]
     by_cases h2:(s.getD (i+2) 0).toNat / 64=2
     ·rw[if_pos h2,if_pos h2]
      by_cases h3:(s.getD (i+3) 0).toNat / 64=2
      ·rw[if_pos h3,if_pos h3]
       exact Yk 65536 _ 4 k
      ·rw[if_neg h3,if_neg h3]; rfl
     ·rw[if_neg h2,if_neg h2]; rfl
    ·rw[if_neg h,if_neg h]; rfl
  rw[aB (show (b:Int)≥224 by omega),cond_true,aV (show ¬(b:Int)≤239 by omega),cond_false,aB (show (b:Int)≥240 by omega),cond_true,aB (show (b:Int)≤244 by omega),cond_true,if_pos c3]
  exact fin
 ·rw[if_neg c3]
  by_cases h1:(b:Int)≥224
  ·rw[aB h1,cond_true,aV (show ¬(b:Int)≤239 by omega),cond_false]
   by_cases h2:(b:Int)≥240
   ·rw[aB h2,cond_true,aV (show ¬(b:Int)≤244 by omega)]; rfl
   ·rw[aV h2]; rfl
  ·rw[aV h1,cond_false]
   by_cases h2:(b:Int)≥240
   ·rw[aB h2,cond_true,aV (show ¬(b:Int)≤244 by omega)]; rfl
   ·rw[aV h2]; rfl
theorem oneN_zero {t:ah}:Z5 t=0↔¬Pe t:=by
 unfold Z5
 have h:=decodeL_width t
 by_cases hg:Pe t
 ·rw[if_pos hg]; constructor
  ·intro e; omega
  ·intro e; exact (e hg).elim
 ·rw[if_neg hg]; exact ⟨fun _=>hg,fun _=>rfl⟩
end Go.Proofs.YtmlkkgfenfdndaaGreatDoor
/-
 Functions of the program as pure Lean functions, and the ties; printed by wip/tools/emit.py.
-/
set_option maxRecDepth 100000
namespace Go.Proofs.YtmlkkgfenfdndaaGreatDoor
open Go Go.aG
/-! ### humpyard/humpyardref04.Same -/
abbrev cU (R:Type):Type:=Json→Json→(Bool→Option R)→Option R
abbrev pk:List bE := [.agg [.int .i64, .int .i64, .int .i64, .str, .sl .str, .sl .json], .agg [.int .i64, .int .i64, .int .i64, .str, .sl .str, .sl .json]]
abbrev pn:List aA := []
def jZ {R:Type} (fn:cU R):bE.au pk→aA.au pn→(V→aO→Option R)→Option R:=fun x y k=>fn (⟨x.1.1,⟨x.1.2.1,x.1.2.2.1⟩,x.1.2.2.2.1,x.1.2.2.2.2.1,x.1.2.2.2.2.2.1⟩:Json) (⟨x.2.1.1,⟨x.2.1.2.1,x.2.1.2.2.1⟩,x.2.1.2.2.2.1,x.2.1.2.2.2.2.1,x.2.1.2.2.2.2.2.1⟩:Json) (fun q0=>k (.bool q0) [])
def PM {R:Type} (fn:cU R):aG.Spec R→aG.Spec R:=bm pk pn (jZ fn)
abbrev mG (R:Type):Type:=Nat→Int→Json→Json→(Json→Json→Option R)→(Bool→Json→Json→Option R)→Option R
abbrev mH (R:Type):Type:=Nat→Int→Json→Json→(Option R)→(Bool→Option R)→Option R
def po {R:Type} (aH:cU R):List (wv R) := [(34,true,(bm pk pn (jZ aH) bb))]
theorem UJ {R:Type} (aH:cU R) (wL:aG.Spec.Ok Tryz.prog 34 (bm pk pn (jZ aH) bb)):ff (R:=R) Tryz.prog (po aH) := .p wL <| .n
def xk {R:Type} (dq:Int→Json→Json→Option R) (x4:Int) (x5:Json) (x6:Json) (e0:Json→Json→Option R) (e1:Bool→Json→Json→Option R):Option R :=
 bif (decide (x4<(x5.names.length:Int)))then (cu (decide ((0:Int)≤x4)&&decide (x4<x5.names.length)) (cu (decide ((0:Int)≤x4)&&decide (x4<x6.names.length)) (bif (!((x5.names.getD x4.toNat (Ty.bU .str))==(x6.names.getD x4.toNat (Ty.bU .str))))then (e1 false (⟨x5.kind,⟨x5.num.aF,x5.num.exp⟩,x5.text,x5.names,x5.items⟩:Json) (⟨x6.kind,⟨x6.num.aF,x6.num.exp⟩,x6.text,x6.names,x6.items⟩:Json))else (dq (IntKind.i64.wrap (x4+1)) (⟨x5.kind,⟨x5.num.aF,x5.num.exp⟩,x5.text,x5.names,x5.items⟩:Json) (⟨x6.kind,⟨x6.num.aF,x6.num.exp⟩,x6.text,x6.names,x6.items⟩:Json)))))else (e0 (⟨x5.kind,⟨x5.num.aF,x5.num.exp⟩,x5.text,x5.names,x5.items⟩:Json) (⟨x6.kind,⟨x6.num.aF,x6.num.exp⟩,x6.text,x6.names,x6.items⟩:Json))
def b9 {R:Type}:mG R
 | 0,_,_,_,_,_=>none
 | n+1,hY,hZ,iB,e0,e1=>xk (fun hY hZ iB=>b9 n hY hZ iB e0 e1) hY hZ iB e0 e1
def xl:Hint := { live := [2,3,5],own := [],rows := [],cells := [],drop := [],out := [2,3,4] }
abbrev lB:Type:=Int × Json × Json
def um:lB→St:=fun d=>⟨U 2 (.ptr 0 0 :: .ptr 1 0 :: .undef :: .int .i64 d.1::U 77 ([])), [.cells [.int .i64 d.2.1.kind, .int .i64 d.2.1.num.aF, .int .i64 d.2.1.num.exp, .str d.2.1.text, .sl .str d.2.1.names .no, .sl .json d.2.1.items .no], .cells [.int .i64 d.2.2.kind, .int .i64 d.2.2.num.aF, .int .i64 d.2.2.num.exp, .str d.2.2.text, .sl .str d.2.2.names .no, .sl .json d.2.2.items .no]]⟩
def BD {R:Type} (K:Ex→St→Option R) (q0:Json) (q1:Json):Option R:=K (.exit 0) ⟨U 2 (.ptr 0 0 :: .ptr 1 0::U 79 ([])), [.cells [.int .i64 q0.kind, .int .i64 q0.num.aF, .int .i64 q0.num.exp, .str q0.text, .sl .str q0.names .no, .sl .json q0.items .no], .cells [.int .i64 q1.kind, .int .i64 q1.num.aF, .int .i64 q1.num.exp, .str q1.text, .sl .str q1.names .no, .sl .json q1.items .no]]⟩
def BE {R:Type} (K:Ex→St→Option R) (q0:Bool) (q1:Json) (q2:Json):Option R:=K (.ret) ⟨U 2 (.ptr 0 0 :: .ptr 1 0 :: .bool q0::U 78 ([])), [.cells [.int .i64 q1.kind, .int .i64 q1.num.aF, .int .i64 q1.num.exp, .str q1.text, .sl .str q1.names .no, .sl .json q1.items .no], .cells [.int .i64 q2.kind, .int .i64 q2.num.aF, .int .i64 q2.num.exp, .str q2.text, .sl .str q2.names .no, .sl .json q2.items .no]]⟩
def CX {R:Type} (K:Ex→St→Option R) (rc:lB→Option R) (d:lB):Option R:=xk (fun z0 z1 z2=>rc (z0,z1,z2)) d.1 d.2.1 d.2.2 (BD K) (BE K)
def pW {R:Type} (K:Ex→St→Option R) (n:Nat) (d:lB):Option R:=b9 n d.1 d.2.1 d.2.2 (BD K) (BE K)
abbrev lC:List bE:=PU 2 (.leaf (.ptr 0 0) :: .leaf (.ptr 1 0) :: .leaf (.undef) :: .leaf (.int .i64)::PU 77 ([]))
abbrev lD:List aA := [.cells [.int .i64, .int .i64, .int .i64, .str, .sl .str, .sl .json], .cells [.int .i64, .int .i64, .int .i64, .str, .sl .str, .sl .json]]
def CY (x:bE.au lC) (y:aA.au lD):Nat:=(Int.natAbs x.2.2.2.2.2.1+Json.fu (⟨y.1.1,⟨y.1.2.1,y.1.2.2.1⟩,y.1.2.2.2.1,y.1.2.2.2.2.1,y.1.2.2.2.2.2.1⟩:Json)+Json.fu (⟨y.2.1.1,⟨y.2.1.2.1,y.2.1.2.2.1⟩,y.2.1.2.2.2.1,y.2.1.2.2.2.2.1,y.2.1.2.2.2.2.2.1⟩:Json)+64)
def CZ (x:bE.au lC) (y:aA.au lD):lB:=(x.2.2.2.2.2.1,(⟨y.1.1,⟨y.1.2.1,y.1.2.2.1⟩,y.1.2.2.2.1,y.1.2.2.2.2.1,y.1.2.2.2.2.2.1⟩:Json),(⟨y.2.1.1,⟨y.2.1.2.1,y.2.1.2.2.1⟩,y.2.1.2.2.2.1,y.2.1.2.2.2.2.1,y.2.1.2.2.2.2.2.1⟩:Json))
def BF {R:Type} (L:mG R):bE.au lC→aA.au lD→(Ex→St→Option R)→Option R:=fun x y K=>L (CY x y) x.2.2.2.2.2.1 (⟨y.1.1,⟨y.1.2.1,y.1.2.2.1⟩,y.1.2.2.2.1,y.1.2.2.2.2.1,y.1.2.2.2.2.2.1⟩:Json) (⟨y.2.1.1,⟨y.2.1.2.1,y.2.1.2.2.1⟩,y.2.1.2.2.2.1,y.2.1.2.2.2.2.1,y.2.1.2.2.2.2.2.1⟩:Json) (BD K) (BE K)
def pX {R:Type} (aH:cU R) (dq:Int→Json→Json→Option R) (PI:Int) (Kr:Json) (NA:Json) (e0:Option R) (e1:Bool→Option R):Option R :=
 bif (decide (PI<(Kr.items.length:Int)))then (cu (decide ((0:Int)≤PI)&&decide (PI<Kr.items.length)) (cu (decide ((0:Int)≤PI)&&decide (PI<NA.items.length)) (aH (⟨(Kr.items.getD PI.toNat (Ty.bU .json)).kind,⟨(Kr.items.getD PI.toNat (Ty.bU .json)).num.aF,(Kr.items.getD PI.toNat (Ty.bU .json)).num.exp⟩,(Kr.items.getD PI.toNat (Ty.bU .json)).text,(Kr.items.getD PI.toNat (Ty.bU .json)).names,(Kr.items.getD PI.toNat (Ty.bU .json)).items⟩:Json) (⟨(NA.items.getD PI.toNat (Ty.bU .json)).kind,⟨(NA.items.getD PI.toNat (Ty.bU .json)).num.aF,(NA.items.getD PI.toNat (Ty.bU .json)).num.exp⟩,(NA.items.getD PI.toNat (Ty.bU .json)).text,(NA.items.getD PI.toNat (Ty.bU .json)).names,(NA.items.getD PI.toNat (Ty.bU .json)).items⟩:Json) (fun DM=>bif (!DM)then (e1 false)else (dq (IntKind.i64.wrap (PI+1)) (⟨Kr.kind,⟨Kr.num.aF,Kr.num.exp⟩,Kr.text,Kr.names,Kr.items⟩:Json) (⟨NA.kind,⟨NA.num.aF,NA.num.exp⟩,NA.text,NA.names,NA.items⟩:Json))))))else (e0)
def bR {R:Type} (aH:cU R):mH R
 | 0,_,_,_,_,_=>none
 | n+1,hY,hZ,iB,e0,e1=>pX aH (fun hY hZ iB=>bR aH n hY hZ iB e0 e1) hY hZ iB e0 e1
def xm:Hint := { live := [2,3,6],own := [],rows := [],cells := [],drop := [],out := [4] }
abbrev lE:Type:=Int × Json × Json
def uo:lE→St:=fun d=>⟨U 2 (.ptr 0 0 :: .ptr 1 0::U 2 (.int .i64 d.1::U 76 ([]))), [.cells [.int .i64 d.2.1.kind, .int .i64 d.2.1.num.aF, .int .i64 d.2.1.num.exp, .str d.2.1.text, .sl .str d.2.1.names .no, .sl .json d.2.1.items .no], .cells [.int .i64 d.2.2.kind, .int .i64 d.2.2.num.aF, .int .i64 d.2.2.num.exp, .str d.2.2.text, .sl .str d.2.2.names .no, .sl .json d.2.2.items .no]]⟩
def BG {R:Type} (K:Ex→St→Option R):Option R:=K (.exit 2) ⟨U 83 ([]), []⟩
def BH {R:Type} (K:Ex→St→Option R) (q0:Bool):Option R:=K (.ret) ⟨U 4 (.bool q0::U 78 ([])), []⟩
def C0 {R:Type} (aH:cU R) (K:Ex→St→Option R) (rc:lE→Option R) (d:lE):Option R:=pX aH (fun z0 z1 z2=>rc (z0,z1,z2)) d.1 d.2.1 d.2.2 (BG K) (BH K)
def pY {R:Type} (aH:cU R) (K:Ex→St→Option R) (n:Nat) (d:lE):Option R:=bR aH n d.1 d.2.1 d.2.2 (BG K) (BH K)
abbrev lF:List bE:=PU 2 (.leaf (.ptr 0 0) :: .leaf (.ptr 1 0)::PU 2 (.leaf (.int .i64)::PU 76 ([])))
abbrev lG:List aA := [.cells [.int .i64, .int .i64, .int .i64, .str, .sl .str, .sl .json], .cells [.int .i64, .int .i64, .int .i64, .str, .sl .str, .sl .json]]
def C1 (x:bE.au lF) (y:aA.au lG):Nat:=(Int.natAbs x.2.2.2.2.2.2.1+Json.fu (⟨y.1.1,⟨y.1.2.1,y.1.2.2.1⟩,y.1.2.2.2.1,y.1.2.2.2.2.1,y.1.2.2.2.2.2.1⟩:Json)+Json.fu (⟨y.2.1.1,⟨y.2.1.2.1,y.2.1.2.2.1⟩,y.2.1.2.2.2.1,y.2.1.2.2.2.2.1,y.2.1.2.2.2.2.2.1⟩:Json)+64)
def C2 (x:bE.au lF) (y:aA.au lG):lE:=(x.2.2.2.2.2.2.1,(⟨y.1.1,⟨y.1.2.1,y.1.2.2.1⟩,y.1.2.2.2.1,y.1.2.2.2.2.1,y.1.2.2.2.2.2.1⟩:Json),(⟨y.2.1.1,⟨y.2.1.2.1,y.2.1.2.2.1⟩,y.2.1.2.2.2.1,y.2.1.2.2.2.2.1,y.2.1.2.2.2.2.2.1⟩:Json))
def BI {R:Type} (L:mH R):bE.au lF→aA.au lG→(Ex→St→Option R)→Option R:=fun x y K=>L (C1 x y) x.2.2.2.2.2.2.1 (⟨y.1.1,⟨y.1.2.1,y.1.2.2.1⟩,y.1.2.2.2.1,y.1.2.2.2.2.1,y.1.2.2.2.2.2.1⟩:Json) (⟨y.2.1.1,⟨y.2.1.2.1,y.2.1.2.2.1⟩,y.2.1.2.2.2.1,y.2.1.2.2.2.2.1,y.2.1.2.2.2.2.2.1⟩:Json) (BG K) (BH K)
def rZ (R:Type) (b9:mG R) (bR:mH R):Nat→Option (Hint × dC R):=fun i=>match i with
 | 4=>some (xl,(dx lC lD (BF b9) j7))
 | 9=>some (xm,(dx lF lG (BI bR) j7))
 | _=>none
theorem MI {R:Type} (aH:cU R) (b9:mG R) (bR:mH R) (K:Ex→St→Option R) (rc:St→Option R) (d:lB):roundOf tt (dM (po aH)) (rZ R b9 bR) 0 ((aT (aI Tryz.f34)).getD 0 .skip) xl (um d) rc K=CX K (fun d=>rc (um d)) d:=by kernel_rfl
theorem Ku {R:Type} (K:Ex→St→Option R) (n:Nat) (d:lB):pW K (n+1) d=CX K (pW K n) d:=by kernel_rfl
theorem Kv {R:Type} (K:Ex→St→Option R) (d:lB):pW K 0 d=none:=by kernel_rfl
theorem MJ (x:bE.au lC) (y:aA.au lD):(⟨bE.eD lC x,aA.eD lD y⟩:St)=um (CZ x y):=by kernel_rfl
theorem MK {R:Type} (x:bE.au lC) (y:aA.au lD) (K:Ex→St→Option R):BF (b9) x y K=pW K (CY x y) (CZ x y):=by kernel_rfl
theorem PN {R:Type} (aH:cU R) (other:dC R) (ho:jt tt (dM (po aH)) (rZ R b9 (bR aH)) 0 ((aT (aI Tryz.f34)).getD 0 .skip) xl other):jt tt (dM (po aH)) (rZ R b9 (bR aH)) 0 ((aT (aI Tryz.f34)).getD 0 .skip) xl (dx lC lD (BF (b9)) other) :=
 dL (A:=pW) ho (fw um (CX) (pW) (Kv) (MI aH b9 (bR aH)) (Ku)) CY CZ MJ (MK)
theorem ML {R:Type} (aH:cU R) (b9:mG R) (bR:mH R) (K:Ex→St→Option R) (rc:St→Option R) (d:lE):roundOf tt (dM (po aH)) (rZ R b9 bR) 0 ((aT (aI Tryz.f34)).getD 1 .skip) xm (uo d) rc K=C0 aH K (fun d=>rc (uo d)) d:=by kernel_rfl
theorem Kw {R:Type} (aH:cU R) (K:Ex→St→Option R) (n:Nat) (d:lE):pY aH K (n+1) d=C0 aH K (pY aH K n) d:=by kernel_rfl
theorem Kx {R:Type} (aH:cU R) (K:Ex→St→Option R) (d:lE):pY aH K 0 d=none:=by kernel_rfl
theorem MN (x:bE.au lF) (y:aA.au lG):(⟨bE.eD lF x,aA.eD lG y⟩:St)=uo (C2 x y):=by kernel_rfl
theorem MO {R:Type} (aH:cU R) (x:bE.au lF) (y:aA.au lG) (K:Ex→St→Option R):BI (bR aH) x y K=pY aH K (C1 x y) (C2 x y):=by kernel_rfl
theorem PO {R:Type} (aH:cU R) (other:dC R) (ho:jt tt (dM (po aH)) (rZ R b9 (bR aH)) 0 ((aT (aI Tryz.f34)).getD 1 .skip) xm other):jt tt (dM (po aH)) (rZ R b9 (bR aH)) 0 ((aT (aI Tryz.f34)).getD 1 .skip) xm (dx lF lG (BI (bR aH)) other) :=
 dL (A:=pY aH) ho (fw uo (C0 aH) (pY aH) (Kx aH) (ML aH b9 (bR aH)) (Kw aH)) C1 C2 MN (MO aH)
def pq {R:Type} (b9:mG R) (bR:mH R) (x1:Json) (x2:Json) (k0:Bool→Option R):Option R :=
 bif (x1.kind != x2.kind)then (k0 false)else (bif (!(x1.num.aF==x2.num.aF&&(x1.num.exp==x2.num.exp&&true)))then (k0 false)else (bif (!(x1.text==x2.text))then (k0 false)else (bif ((x1.names.length:Int) != (x2.names.length:Int))then (k0 false)else (bif ((x1.items.length:Int) != (x2.items.length:Int))then (k0 false)else (b9 (Int.natAbs 0+Json.fu (⟨x1.kind,⟨x1.num.aF,x1.num.exp⟩,x1.text,x1.names,x1.items⟩:Json)+Json.fu (⟨x2.kind,⟨x2.num.aF,x2.num.exp⟩,x2.text,x2.names,x2.items⟩:Json)+64) 0 (⟨x1.kind,⟨x1.num.aF,x1.num.exp⟩,x1.text,x1.names,x1.items⟩:Json) (⟨x2.kind,⟨x2.num.aF,x2.num.exp⟩,x2.text,x2.names,x2.items⟩:Json) (fun y7 y8=>bR (Int.natAbs 0+Json.fu (⟨y7.kind,⟨y7.num.aF,y7.num.exp⟩,y7.text,y7.names,y7.items⟩:Json)+Json.fu (⟨y8.kind,⟨y8.num.aF,y8.num.exp⟩,y8.text,y8.names,y8.items⟩:Json)+64) 0 (⟨y7.kind,⟨y7.num.aF,y7.num.exp⟩,y7.text,y7.names,y7.items⟩:Json) (⟨y8.kind,⟨y8.num.aF,y8.num.exp⟩,y8.text,y8.names,y8.items⟩:Json) (k0 true) (fun HF=>k0 HF)) (fun y9 rI rq=>k0 y9))))))
def Jl {R:Type} (aH:cU R):cU R:=fun x1 x2 k0=>pq b9 (bR aH) x1 x2 k0
theorem VY {R:Type} (aH:cU R) (b9:mG R) (bR:mH R):gS (R:=R) tt (po aH) (rZ R b9 bR) false Tryz.f34 (aI Tryz.f34) pk pn (jZ (pq b9 bR)):=fun x y k=>by kernel_rfl
theorem QY (R:Type) (aH:cU R) (wL:aG.Spec.Ok Tryz.prog 34 (bm pk pn (jZ aH) bb)):∀a∈aT (aI Tryz.f34),jn tt (dM (po aH)) (rZ R b9 (bR aH)) 0 a:=by
 refine gR 2 (by kernel_rfl) fun i hi => ?_
 match i,hi with
 | 0,_=>exact cW (by kernel_rfl) (PN aH _ eN)
 | 1,_=>exact cW (by kernel_rfl) (PO aH _ eN)
 | n+2,hi=>omega
theorem QZ (R:Type) (aH:cU R) (wL:aG.Spec.Ok Tryz.prog 34 (bm pk pn (jZ aH) bb)):sM Tryz.prog 34 (PM (Jl aH)):=cC TT mixed (UJ aH wL) rfl rfl rfl rfl (QY R aH wL) (VY aH b9 (bR aH))
def gd {R:Type}:Nat→cU R
 | 0,_,_,_=>none
 | n+1,hY,hZ,k0'=>Jl (gd n) hY hZ k0'
theorem ref04_Same_N_succ {R:Type} (n:Nat):gd (R:=R) (n+1)=Jl (gd n):=by kernel_rfl
theorem Sv (R:Type):∀n,aG.Spec.Ok Tryz.prog 34 (bm pk pn (jZ (gd (R:=R) n)) bb) :=
 wu (run:=fun n=>jZ (gd (R:=R) n)) (fun x y k=>by kernel_rfl) fun n hyp=>QZ R (gd n) hyp bb (aM _)
def gM {R:Type}:cU R:=fun x1 x2 k0=>gd (Json.depth x1+2) x1 x2 k0
theorem Sw (R:Type):jZ (R:=R) gM=fun x y k=>jZ (gd (Json.depth (⟨x.1.1,⟨x.1.2.1,x.1.2.2.1⟩,x.1.2.2.2.1,x.1.2.2.2.2.1,x.1.2.2.2.2.2.1⟩:Json)+2)) x y k:=by kernel_rfl
theorem Sx (R:Type) (other:aG.Spec R) (ho:aG.Spec.Ok Tryz.prog 34 other):aG.Spec.Ok Tryz.prog 34 (bm pk pn (jZ gM) other) :=
 CA (FC (run:=fun n=>jZ (gd (R:=R) n)) (fun x y=>(Json.depth (⟨x.1.1,⟨x.1.2.1,x.1.2.2.1⟩,x.1.2.2.2.1,x.1.2.2.2.2.1,x.1.2.2.2.2.2.1⟩:Json)+2)) ho (Sv R)) (Sw R)
/-! ### humpyard/humpyardref02.four -/
abbrev vn (R:Type):Type:=ah→Int→(Int→Option R)→Option R
abbrev Jm:List bE := [.leaf (.str), .leaf (.int .i64)]
abbrev Jn:List aA := []
def NB {R:Type} (fn:vn R):bE.au Jm→aA.au Jn→(V→aO→Option R)→Option R:=fun x y k=>fn x.1 x.2.1 (fun q0=>k (.int .i64 q0) [])
def PQ {R:Type} (fn:vn R):aG.Spec R→aG.Spec R:=bm Jm Jn (NB fn)
abbrev oP (R:Type):Type:=Nat→ah→Int→Int→Int→(Int→Option R)→(Int→Int→Option R)→Option R
def nT {R:Type} (dq:ah→Int→Int→Int→Option R) (x3:ah) (x4:Int) (x5:Int) (x6:Int) (e0:Int→Option R) (e1:Int→Int→Option R):Option R :=
 bif (decide (x6<(IntKind.i64.wrap (x4+4))))then (cu (decide ((0:Int)≤x6)&&decide (x6<x3.length)) (let j12:=fun (z7:Bool)=>bif z7 then (dq x3 x4 (IntKind.i64.wrap ((IntKind.i64.wrap (16*x5))+(IntKind.i64.wrap (IntKind.u8.wrap (((x3.getD x6.toNat 0).toNat:Int) - 48))))) (IntKind.i64.wrap (x6+1)))else (bif (decide (((x3.getD x6.toNat 0).toNat:Int)≥(97:Int)))then (bif (decide (((x3.getD x6.toNat 0).toNat:Int)≤(102:Int)))then (dq x3 x4 (IntKind.i64.wrap ((IntKind.i64.wrap (16*x5))+(IntKind.i64.wrap ((IntKind.i64.wrap (IntKind.u8.wrap (((x3.getD x6.toNat 0).toNat:Int) - 97)))+10)))) (IntKind.i64.wrap (x6+1)))else (bif (decide (((x3.getD x6.toNat 0).toNat:Int)≥(65:Int)))then (bif (decide (((x3.getD x6.toNat 0).toNat:Int)≤(70:Int)))then (dq x3 x4 (IntKind.i64.wrap ((IntKind.i64.wrap (16*x5))+(IntKind.i64.wrap ((IntKind.i64.wrap (IntKind.u8.wrap (((x3.getD x6.toNat 0).toNat:Int) - 65)))+10)))) (IntKind.i64.wrap (x6+1)))else (e1 (-1) x5))else (e1 (-1) x5)))else (bif (decide (((x3.getD x6.toNat 0).toNat:Int)≥(65:Int)))then (bif (decide (((x3.getD x6.toNat 0).toNat:Int)≤(70:Int)))then (dq x3 x4 (IntKind.i64.wrap ((IntKind.i64.wrap (16*x5))+(IntKind.i64.wrap ((IntKind.i64.wrap (IntKind.u8.wrap (((x3.getD x6.toNat 0).toNat:Int) - 65)))+10)))) (IntKind.i64.wrap (x6+1)))else (e1 (-1) x5))else (e1 (-1) x5))); bif (decide (((x3.getD x6.toNat 0).toNat:Int)≥(48:Int)))then (j12 (decide (((x3.getD x6.toNat 0).toNat:Int)≤(57:Int))))else (j12 false)))else (e0 x5)
def cb {R:Type}:oP R
 | 0,_,_,_,_,_,_=>none
 | n+1,hY,hZ,iB,ql,e0,e1=>nT (fun hY hZ iB ql=>cb n hY hZ iB ql e0 e1) hY hZ iB ql e0 e1
def xn:Hint := { live := [0,1,5,6],own := [],rows := [],cells := [],drop := [],out := [4,5] }
abbrev lH:Type:=ah × Int × Int × Int
def ur:lH→St:=fun d=>⟨.str d.1 :: .int .i64 d.2.1::U 3 (.int .i64 d.2.2.1 :: .int .i64 d.2.2.2::U 54 ([])), []⟩
def BJ {R:Type} (K:Ex→St→Option R) (q0:Int):Option R:=K (.exit 0) ⟨U 5 (.int .i64 q0::U 55 ([])), []⟩
def BK {R:Type} (K:Ex→St→Option R) (q0:Int) (q1:Int):Option R:=K (.ret) ⟨U 4 (.int .i64 q0 :: .int .i64 q1::U 55 ([])), []⟩
def C3 {R:Type} (K:Ex→St→Option R) (rc:lH→Option R) (d:lH):Option R:=nT (fun z0 z1 z2 z3=>rc (z0,z1,z2,z3)) d.1 d.2.1 d.2.2.1 d.2.2.2 (BJ K) (BK K)
def pZ {R:Type} (K:Ex→St→Option R) (n:Nat) (d:lH):Option R:=cb n d.1 d.2.1 d.2.2.1 d.2.2.2 (BJ K) (BK K)
abbrev lI:List bE := .leaf (.str) :: .leaf (.int .i64)::PU 3 (.leaf (.int .i64) :: .leaf (.int .i64)::PU 54 ([]))
abbrev lJ:List aA := []
def C4 (x:bE.au lI) (y:aA.au lJ):Nat:=(List.length x.1+Int.natAbs x.2.1+Int.natAbs x.2.2.2.2.2.1+Int.natAbs x.2.2.2.2.2.2.1+64)
def C5 (x:bE.au lI) (y:aA.au lJ):lH:=(x.1,x.2.1,x.2.2.2.2.2.1,x.2.2.2.2.2.2.1)
def BL {R:Type} (L:oP R):bE.au lI→aA.au lJ→(Ex→St→Option R)→Option R:=fun x y K=>L (C4 x y) x.1 x.2.1 x.2.2.2.2.2.1 x.2.2.2.2.2.2.1 (BJ K) (BK K)
def BM (R:Type) (cb:oP R):Nat→Option (Hint × dC R):=fun i=>match i with
 | 5=>some (xn,(dx lI lJ (BL cb) j7))
 | _=>none
theorem MP {R:Type} (cb:oP R) (K:Ex→St→Option R) (rc:St→Option R) (d:lH):roundOf tt (dM []) (BM R cb) 0 ((aT (aI Tryz.f158)).getD 0 .skip) xn (ur d) rc K=C3 K (fun d=>rc (ur d)) d:=by kernel_rfl
theorem Ky {R:Type} (K:Ex→St→Option R) (n:Nat) (d:lH):pZ K (n+1) d=C3 K (pZ K n) d:=by kernel_rfl
theorem Kz {R:Type} (K:Ex→St→Option R) (d:lH):pZ K 0 d=none:=by kernel_rfl
theorem MQ (x:bE.au lI) (y:aA.au lJ):(⟨bE.eD lI x,aA.eD lJ y⟩:St)=ur (C5 x y):=by kernel_rfl
theorem MR {R:Type} (x:bE.au lI) (y:aA.au lJ) (K:Ex→St→Option R):BL (cb) x y K=pZ K (C4 x y) (C5 x y):=by kernel_rfl
theorem PR {R:Type} (other:dC R) (ho:jt tt (dM []) (BM R cb) 0 ((aT (aI Tryz.f158)).getD 0 .skip) xn other):jt tt (dM []) (BM R cb) 0 ((aT (aI Tryz.f158)).getD 0 .skip) xn (dx lI lJ (BL (cb)) other) :=
 dL (A:=pZ) ho (fw ur (C3) (pZ) (Kz) (MP cb) (Ky)) C4 C5 MQ (MR)
def Fa {R:Type} (cb:oP R) (x1:ah) (x2:Int) (k0:Int→Option R):Option R :=
 bif (decide ((IntKind.i64.wrap (x2+4))>(x1.length:Int)))then (k0 (-1))else (cb (List.length x1+Int.natAbs x2+Int.natAbs 0+Int.natAbs x2+64) x1 x2 0 x2 (fun DM=>k0 DM) (fun HF Iv=>k0 HF))
def ia {R:Type}:vn R:=fun x1 x2 k0=>Fa cb x1 x2 k0
theorem VZ {R:Type} (cb:oP R):gS (R:=R) tt [] (BM R cb) false Tryz.f158 (aI Tryz.f158) Jm Jn (NB (Fa cb)):=fun x y k=>by kernel_rfl
theorem Q0 (R:Type):∀a∈aT (aI Tryz.f158),jn tt (dM []) (BM R cb) 0 a:=by
 refine gR 1 (by kernel_rfl) fun i hi => ?_
 match i,hi with
 | 0,_=>exact cW (by kernel_rfl) (PR _ eN)
 | n+1,hi=>omega
theorem Sy (R:Type):sM Tryz.prog 158 (PQ (ia (R:=R))):=cC TT mixed .n rfl rfl rfl rfl (Q0 R) (VZ cb)
/-! ### humpyard/humpyardref02.laid -/
abbrev vo (R:Type):Type:=Int→((List Int)→Option R)→Option R
abbrev Jo:List bE := [.leaf (.int .i64)]
abbrev Jp:List aA := []
def NC {R:Type} (fn:vo R):bE.au Jo→aA.au Jp→(V→aO→Option R)→Option R:=fun x y k=>fn x.1 (fun q0=>k (.sl (.int .u8) q0 .no) [])
def PS {R:Type} (fn:vo R):aG.Spec R→aG.Spec R:=bm Jo Jp (NC fn)
def Fb {R:Type} (x1:Int) (k0:(List Int)→Option R):Option R :=
 bif (decide (x1<(128:Int)))then (k0 ([(IntKind.u8.wrap x1)]:List Int))else (bif (decide (x1<(2048:Int)))then (k0 ([(IntKind.u8.wrap (IntKind.i64.wrap ((BitVec.ofInt IntKind.i64.bits 192 ||| BitVec.ofInt IntKind.i64.bits (Int.fdiv x1 (2 ^ (min 6 IntKind.i64.bits)))).toNat:Int))),(IntKind.u8.wrap (IntKind.i64.wrap ((BitVec.ofInt IntKind.i64.bits 128 ||| BitVec.ofInt IntKind.i64.bits (IntKind.i64.wrap ((BitVec.ofInt IntKind.i64.bits x1 &&& BitVec.ofInt IntKind.i64.bits 63).toNat:Int))).toNat:Int)))]:List Int))else (bif (decide (x1<(65536:Int)))then (k0 ([(IntKind.u8.wrap (IntKind.i64.wrap ((BitVec.ofInt IntKind.i64.bits 224 ||| BitVec.ofInt IntKind.i64.bits (Int.fdiv x1 (2 ^ (min 12 IntKind.i64.bits)))).toNat:Int))),(IntKind.u8.wrap (IntKind.i64.wrap ((BitVec.ofInt IntKind.i64.bits 128 ||| BitVec.ofInt IntKind.i64.bits (IntKind.i64.wrap ((BitVec.ofInt IntKind.i64.bits (Int.fdiv x1 (2 ^ (min 6 IntKind.i64.bits))) &&& BitVec.ofInt IntKind.i64.bits 63).toNat:Int))).toNat:Int))),(IntKind.u8.wrap (IntKind.i64.wrap ((BitVec.ofInt IntKind.i64.bits 128 ||| BitVec.ofInt IntKind.i64.bits (IntKind.i64.wrap ((BitVec.ofInt IntKind.i64.bits x1 &&& BitVec.ofInt IntKind.i64.bits 63).toNat:Int))).toNat:Int)))]:List Int))else (k0 ([(IntKind.u8.wrap (IntKind.i64.wrap ((BitVec.ofInt IntKind.i64.bits 240 ||| BitVec.ofInt IntKind.i64.bits (Int.fdiv x1 (2 ^ (min 18 IntKind.i64.bits)))).toNat:Int))),(IntKind.u8.wrap (IntKind.i64.wrap ((BitVec.ofInt IntKind.i64.bits 128 ||| BitVec.ofInt IntKind.i64.bits (IntKind.i64.wrap ((BitVec.ofInt IntKind.i64.bits (Int.fdiv x1 (2 ^ (min 12 IntKind.i64.bits))) &&& BitVec.ofInt IntKind.i64.bits 63).toNat:Int))).toNat:Int))),(IntKind.u8.wrap (IntKind.i64.wrap ((BitVec.ofInt IntKind.i64.bits 128 ||| BitVec.ofInt IntKind.i64.bits (IntKind.i64.wrap ((BitVec.ofInt IntKind.i64.bits (Int.fdiv x1 (2 ^ (min 6 IntKind.i64.bits))) &&& BitVec.ofInt IntKind.i64.bits 63).toNat:Int))).toNat:Int))),(IntKind.u8.wrap (IntKind.i64.wrap ((BitVec.ofInt IntKind.i64.bits 128 ||| BitVec.ofInt IntKind.i64.bits (IntKind.i64.wrap ((BitVec.ofInt IntKind.i64.bits x1 &&& BitVec.ofInt IntKind.i64.bits 63).toNat:Int))).toNat:Int)))]:List Int))))
def gm {R:Type}:vo R:=fun x1 k0=>Fb x1 k0
theorem V0 {R:Type}:gS (R:=R) tt [] Ca false Tryz.f159 (aI Tryz.f159) Jo Jp (NC Fb):=fun x y k=>by kernel_rfl
theorem Sz (R:Type):sM Tryz.prog 159 (PS (gm (R:=R))):=cC TT mixed .n rfl rfl rfl rfl eS (V0)
/-! ### humpyard/humpyardref02.escape -/
abbrev ng (R:Type):Type:=ah→Int→((List Int)→Int→Option R)→Option R
abbrev F1:List bE := [.leaf (.str), .leaf (.int .i64)]
abbrev F2:List aA := []
def J5 {R:Type} (fn:ng R):bE.au F1→aA.au F2→(V→aO→Option R)→Option R:=fun x y k=>fn x.1 x.2.1 (fun q0 q1=>k (.tuple [.sl (.int .u8) q0 .no, .int .i64 q1]) [])
def LR {R:Type} (fn:ng R):aG.Spec R→aG.Spec R:=bm F1 F2 (J5 fn)
def LS {R:Type} (ia:vn R) (gm:vo R):List (wv R) := [(158,true,(PQ ia bb)),(159,true,(PS gm bb))]
theorem Q1 {R:Type}:ff (R:=R) Tryz.prog (LS ia gm) := .p (Sy R _ (aM _)) <| .p (Sz R _ (aM _)) <| .n
def BN {R:Type} (ia:vn R) (gm:vo R) (x1:ah) (x2:Int) (k0:(List Int)→Int→Option R):Option R :=
 bif (decide (x2≥(x1.length:Int)))then (k0 ([]:List Int) 0)else (cu (decide ((0:Int)≤x2)&&decide (x2<x1.length)) (let j15:=fun (z3:Bool)=>bif z3 then (cu (decide ((0:Int)≤x2)&&decide (x2<x1.length)) (k0 ([((x1.getD x2.toNat 0).toNat:Int)]:List Int) 1))else (bif (((x1.getD x2.toNat 0).toNat:Int)==98)then (k0 ([8]:List Int) 1)else (bif (((x1.getD x2.toNat 0).toNat:Int)==102)then (k0 ([12]:List Int) 1)else (bif (((x1.getD x2.toNat 0).toNat:Int)==110)then (k0 ([10]:List Int) 1)else (bif (((x1.getD x2.toNat 0).toNat:Int)==114)then (k0 ([13]:List Int) 1)else (bif (((x1.getD x2.toNat 0).toNat:Int)==116)then (k0 ([9]:List Int) 1)else (bif (((x1.getD x2.toNat 0).toNat:Int)==117)then (ia x1 (IntKind.i64.wrap (x2+1)) (fun y4=>let Z0:=bif (decide (y4<(55296:Int)))then (gm y4 (fun y8=>k0 y8 5))else (bif (decide (y4>(57343:Int)))then (gm y4 (fun y9=>k0 y9 5))else (bif (decide ((IntKind.i64.wrap (x2+7))>(x1.length:Int)))then (k0 ([]:List Int) 0)else (cu (decide ((0:Int)≤(IntKind.i64.wrap (x2+5)))&&decide ((IntKind.i64.wrap (x2+5))<x1.length)) (bif (((x1.getD ((IntKind.i64.wrap (x2+5)).toNat) 0).toNat:Int) != 92)then (k0 ([]:List Int) 0)else (cu (decide ((0:Int)≤(IntKind.i64.wrap (x2+6)))&&decide ((IntKind.i64.wrap (x2+6))<x1.length)) (bif (((x1.getD ((IntKind.i64.wrap (x2+6)).toNat) 0).toNat:Int) != 117)then (k0 ([]:List Int) 0)else (ia x1 (IntKind.i64.wrap (x2+7)) (fun rq=>bif (decide (rq<(56320:Int)))then (k0 ([]:List Int) 0)else (bif (decide (rq>(57343:Int)))then (k0 ([]:List Int) 0)else (gm (IntKind.i64.wrap ((IntKind.i64.wrap ((IntKind.i64.wrap (65536+(IntKind.i64.wrap ((IntKind.i64.wrap (y4 - 55296))*2 ^ (min 10 IntKind.i64.bits)))))+rq)) - 56320)) (fun G8=>k0 G8 11))))))))))); bif (decide (y4<(0:Int)))then (k0 ([]:List Int) 0)else (bif (decide (y4≥(56320:Int)))then (bif (decide (y4≤(57343:Int)))then (k0 ([]:List Int) 0)else (Z0))else (Z0))))else (k0 ([]:List Int) 0))))))); bif (((x1.getD x2.toNat 0).toNat:Int)==34)then (j15 (((x1.getD x2.toNat 0).toNat:Int)==34))else (bif (((x1.getD x2.toNat 0).toNat:Int)==92)then (j15 (((x1.getD x2.toNat 0).toNat:Int)==92))else (j15 (((x1.getD x2.toNat 0).toNat:Int)==47)))))
def dZ {R:Type}:ng R:=fun x1 x2 k0=>BN ia gm x1 x2 k0
theorem SA {R:Type} (ia:vn R) (gm:vo R):gS (R:=R) tt (LS ia gm) Ca false Tryz.f140 (aI Tryz.f140) F1 F2 (J5 (BN ia gm)):=fun x y k=>by kernel_rfl
theorem PT (R:Type):sM Tryz.prog 140 (LR (dZ (R:=R))):=cC TT mixed (Q1 (R:=R)) rfl rfl rfl rfl eS (SA ia gm)
end Go.Proofs.YtmlkkgfenfdndaaGreatDoor
set_option maxRecDepth 100000
namespace Go.Proofs.YtmlkkgfenfdndaaGreatDoor
open Go Go.aG Go.Lib
theorem Q2 (n m:Nat):((n:Int)==(m:Int))=decide (n=m):=by
 by_cases h:n=m
 ·subst h; simp
 ·have:¬((n:Int)=(m:Int)):=by omega
  simp[h,this]
def qb (b:UInt8):ah :=
 if b.toNat=34∨b.toNat=92 then [92,b]else if b.toNat=8 then [92,98]else if b.toNat=9 then [92,116]else if b.toNat=10 then [92,110]else if b.toNat=12 then [92,102]else if b.toNat=13 then [92,114]
 else if b.toNat<32 then [92,117,48,48,MB.getD (b.toNat / 16) 0,MB.getD (b.toNat % 16) 0]else [b]
theorem qb_len (b:UInt8):(qb b).length≤6:=by unfold qb; (repeat' split) <;> simp
theorem Fc {b:UInt8} (h:128≤b.toNat):qb b = [b]:=by
 unfold qb
 rw[if_neg (by omega),if_neg (by omega),if_neg (by omega),if_neg (by omega),if_neg (by omega),if_neg (by omega),if_neg (by omega)]
theorem qb_enc {c:Nat} (hv:vr c):(enc c).flatMap qb=qc c:=by
 have kY:=WK hv
 rcases FD hv with ⟨h1,e⟩|⟨h0,h1,e⟩|⟨h0,h1,e⟩|⟨h0,e⟩
 ·rw[e]
  simp only[List.flatMap_cons,List.flatMap_nil,List.append_nil]
  have hu:=iV c (by omega)
  unfold qb qc Hk
  rw[hu]
  by_cases J4:c=34
  ·subst J4; rfl
  by_cases WV:c=92
  ·subst WV; rfl
  by_cases h8:c=8
  ·subst h8; rfl
  by_cases h9:c=9
  ·subst h9; rfl
  by_cases h10:c=10
  ·subst h10; rfl
  by_cases h12:c=12
  ·subst h12; rfl
  by_cases h13:c=13
  ·subst h13; rfl
  simp only[J4,WV,h8,h9,h10,h12,h13,or_self,if_false,ne_eq,not_true_eq_false]
  by_cases h32:c<32
  ·simp only[h32,if_true]
  ·simp only[h32,if_false]
   rw[e]
 ·have hq:qc c=enc c:=Yh (by unfold Hk; rw[if_neg (by omega),if_neg (by omega),if_neg (by omega),if_neg (by omega),if_neg (by omega),if_neg (by omega)]) (by omega)
  rw[hq,e]
  simp only[List.flatMap_cons,List.flatMap_nil,List.append_nil]
  rw[Fc (by rw[iV _ (by omega)]; omega),Fc (by rw[iV _ (by omega)]; omega)]; rfl
 ·have hq:qc c=enc c:=Yh (by unfold Hk; rw[if_neg (by omega),if_neg (by omega),if_neg (by omega),if_neg (by omega),if_neg (by omega),if_neg (by omega)]) (by omega)
  rw[hq,e]
  simp only[List.flatMap_cons,List.flatMap_nil,List.append_nil]
  rw[Fc (by rw[iV _ (by omega)]; omega),Fc (by rw[iV _ (by omega)]; omega),Fc (by rw[iV _ (by omega)]; omega)]; rfl
 ·have hq:qc c=enc c:=Yh (by unfold Hk; rw[if_neg (by omega),if_neg (by omega),if_neg (by omega),if_neg (by omega),if_neg (by omega),if_neg (by omega)]) (by omega)
  rw[hq,e]
  simp only[List.flatMap_cons,List.flatMap_nil,List.append_nil]
  rw[Fc (by rw[iV _ (by omega)]; omega),Fc (by rw[iV _ (by omega)]; omega),Fc (by rw[iV _ (by omega)]; omega),Fc (by rw[iV _ (by omega)]; omega)]; rfl
theorem qb_encL:∀(rs:List Nat),(∀c∈rs,vr c)→(eD rs).flatMap qb=Vv rs
 | [],_=>rfl
 | c::rs,h=>by
  have e:eD (c::rs)=enc c++eD rs:=by simp[eD]
  have e2:Vv (c::rs)=qc c++Vv rs:=by simp[Vv]
  rw[e,e2,List.flatMap_append,qb_enc (h c (by simp)),qb_encL rs (fun x hx=>h x (by simp[hx]))]
theorem unz (s:ah):(List.map (fun n:Int=>UInt8.ofNat n.toNat) (zs s):ah)=s:=bstr_zs s
theorem UK {a b:Nat} (h:b≤a) (ha:a<256):IntKind.u8.wrap ((a:Int) - (b:Int))=((a - b:Nat):Int):=by
  have:(a:Int) - (b:Int)=((a - b:Nat):Int):=by omega
  rw[this,wrap8,Nat.mod_eq_of_lt (by omega)]
theorem four_round {R:Type} {s:ah} {p k v:Nat} (hs:s.length≤9000000000000000) (hp:p≤s.length) (hk:k<p+4) (hi:k<s.length) (hv:v<4096) (dq:ah→Int→Int→Int→Option R) (e0:Int→Option R) (e1:Int→Int→Option R) :
    nT dq s (p:Int) (v:Int) (k:Int) e0 e1=match Oq (s.getD k 0)with|some d=>dq s (p:Int) ((16*v+d:Nat):Int) ((k+1:Nat):Int)|none=>e1 (-1) (v:Int):=by
  unfold nT
  have hw:IntKind.i64.wrap ((p:Int)+4)=((p+4:Nat):Int):=by rw[bw (by omega) (by omega)]; omega
  have hk1:IntKind.i64.wrap ((k:Int)+1)=((k+1:Nat):Int):=by rw[bw (by omega) (by omega)]; omega
  rw[hw,hk1,Int.toNat_natCast,aB (show (k:Int)<((p+4:Nat):Int) by omega),cond_true,aS (by rw[aB (by omega),aB (by omega)]; rfl)]
  dsimp only
  have hb:=UInt8.toNat_lt (s.getD k 0)
  unfold Oq
  simp only
  generalize (s.getD k 0).toNat=b at *
  have k1:IntKind.i64.wrap (16*(v:Int))=((16*v:Nat):Int):=by rw[bw (by omega) (by omega)]; omega
  have fin:∀(z:Int) (d:Nat),z=(d:Int)→d<16→IntKind.i64.wrap ((IntKind.i64.wrap (16*(v:Int)))+z)=((16*v+d:Nat):Int):=by
    intro z d hz hd
    rw[k1,hz,bw (by omega) (by omega)]
    omega
  by_cases h1:48≤b∧b≤57
  · rw[aB (show (b:Int)≥48 by omega),cond_true,aB (show (b:Int)≤57 by omega),cond_true,if_pos h1]
    have e:IntKind.u8.wrap ((b:Int) - 48)=((b - 48:Nat):Int):=UK (b:=48) h1.1 hb
    rw[fin _ (b - 48) (by rw[e,bw (by omega) (by omega)]) (by omega)]
  rw[if_neg h1]
  have j12:∀x z:Option R,(bif (decide ((b:Int)≥48))then (bif (decide ((b:Int)≤57))then x else z)else z)=z:=by
    intro x z
    by_cases h:(b:Int)≥48
    · rw[aB h,cond_true,aV (show ¬(b:Int)≤57 by omega),cond_false]
    · rw[aV h,cond_false]
  simp only[cond_false]
  rw[j12]
  by_cases h2:65≤b∧b≤70
  · rw[if_pos h2,aV (show ¬(b:Int)≥97 by omega),cond_false,aB (show (b:Int)≥65 by omega),cond_true,aB (show (b:Int)≤70 by omega),cond_true]
    have e:IntKind.u8.wrap ((b:Int) - 65)=((b - 65:Nat):Int):=UK (b:=65) h2.1 hb
    rw[fin _ (b - 55) (by rw[e,bw (n:=((b - 65:Nat):Int)) (by omega) (by omega),bw (by omega) (by omega)]; omega) (by omega)]
  rw[if_neg h2]
  have j65:∀x z:Option R,(bif (decide ((b:Int)≥65))then (bif (decide ((b:Int)≤70))then x else z)else z)=z:=by
    intro x z
    by_cases h:(b:Int)≥65
    · rw[aB h,cond_true,aV (show ¬(b:Int)≤70 by omega),cond_false]
    · rw[aV h,cond_false]
  rw[j65]
  by_cases h3:97≤b∧b≤102
  · rw[if_pos h3,aB (show (b:Int)≥97 by omega),cond_true,aB (show (b:Int)≤102 by omega),cond_true]
    have e:IntKind.u8.wrap ((b:Int) - 97)=((b - 97:Nat):Int):=UK (b:=97) h3.1 hb
    rw[fin _ (b - 87) (by rw[e,bw (n:=((b - 97:Nat):Int)) (by omega) (by omega),bw (by omega) (by omega)]; omega) (by omega)]
  rw[if_neg h3]
  by_cases h4:(b:Int)≥97
  · rw[aB h4,cond_true,aV (show ¬(b:Int)≤102 by omega),cond_false]
  · rw[aV h4,cond_false]
theorem UL (s:ah) (k m:Nat) (hm:0<m) (hk:k<s.length):(s.drop k).take m=s.getD k 0::(s.drop (k+1)).take (m - 1):=by
  obtain ⟨j,rfl⟩:∃j,m=j+1:=⟨m - 1,by omega⟩
  rw[List.drop_eq_getElem_cons hk,List.take_succ_cons]
  simp[List.getD,hk]
theorem four_loop {R:Type} {s:ah} {p:Nat} (hs:s.length≤9000000000000000) (hp:p+4≤s.length) (e0:Int→Option R) (e1:Int→Int→Option R):∀(m n k v:Nat),k+m=p+4→m<n→v<16 ^ (4 - m)→m≤4 →
    (match Kk ((s.drop k).take m) v with
     | some u=>cb n s (p:Int) (v:Int) (k:Int) e0 e1=e0 (u:Int)
     | none=>∃w,cb n s (p:Int) (v:Int) (k:Int) e0 e1=e1 (-1) w):=by
  intro m
  induction m with
  | zero =>
    intro n k v hk hn hv _
    obtain ⟨n,rfl⟩:∃j,n=j+1:=⟨n - 1,by omega⟩
    rw[List.take_zero]
    simp only[Kk]
    have e:cb (n+1) s (p:Int) (v:Int) (k:Int) e0 e1=nT (fun hY hZ iB ql=>cb n hY hZ iB ql e0 e1) s (p:Int) (v:Int) (k:Int) e0 e1:=rfl
    rw[e]
    unfold nT
    have hw:IntKind.i64.wrap ((p:Int)+4)=((p+4:Nat):Int):=by rw[bw (by omega) (by omega)]; omega
    rw[hw,aV (show ¬(k:Int)<((p+4:Nat):Int) by omega),cond_false]
  | succ m ih =>
    intro n k v hk hn hv hm
    obtain ⟨n,rfl⟩:∃j,n=j+1:=⟨n - 1,by omega⟩
    have hv2:v<4096:=by
      have:16 ^ (4 - (m+1))≤16 ^ 3:=Nat.pow_le_pow_right (by omega) (by omega)
      have e:(16:Nat) ^ 3=4096:=rfl
      omega
    have e:cb (n+1) s (p:Int) (v:Int) (k:Int) e0 e1=nT (fun hY hZ iB ql=>cb n hY hZ iB ql e0 e1) s (p:Int) (v:Int) (k:Int) e0 e1:=rfl
    rw[e,four_round hs (by omega) (by omega) (by omega) hv2,UL s k (m+1) (by omega) (by omega)]
    simp only[Kk,Nat.add_sub_cancel]
    cases hx:Oq (s.getD k 0)with
    | none=>exact ⟨_,rfl⟩
    | some d =>
      have hd:=Yb hx
      have h16:16 ^ (4 - m)=16 ^ (4 - (m+1))*16:=by rw[←Nat.pow_succ]; congr 1; omega
      exact ih n (k+1) (16*v+d) (by omega) (by omega) (by omega) (by omega)
theorem four_ok {R:Type} (s:ah) (p:Nat) (hs:s.length≤9000000000000000) (hp:p≤s.length) (f:Int→Option R):ia s (p:Int) f=match EP (s.drop p)with|some (v,_)=>f (v:Int)|none=>f (-1):=by
  have e:ia s (p:Int) f=Fa cb s (p:Int) f:=rfl
  rw[e]
  unfold Fa EP
  have hw:IntKind.i64.wrap ((p:Int)+4)=((p+4:Nat):Int):=by rw[bw (by omega) (by omega)]; omega
  rw[hw,List.length_drop]
  by_cases h:s.length - p<4
  · rw[aB (show ((p+4:Nat):Int)>(s.length:Int) by omega),cond_true,if_pos h]
  · rw[aV (show ¬((p+4:Nat):Int)>(s.length:Int) by omega),cond_false,if_neg h]
    have:=four_loop (R:=R) hs (show p+4≤s.length by omega) (fun DM=>f DM) (fun HF Iv=>f HF) 4 (List.length s+Int.natAbs (p:Int)+Int.natAbs 0+Int.natAbs (p:Int)+64) p 0 rfl (by omega) (by omega) (by omega)
    cases hx:Kk ((s.drop p).take 4) 0 with
    | some u=>rw[hx]at this; exact this
    | none=>rw[hx]at this; obtain ⟨w,h2⟩:=this; exact h2
theorem lor128:∀x:Fin 64,IntKind.u8.wrap (IntKind.i64.wrap ((BitVec.ofInt IntKind.i64.bits 128 ||| BitVec.ofInt IntKind.i64.bits (x.val:Int)).toNat:Int))=((128+x.val:Nat):Int):=by decide +kernel
theorem lor192:∀x:Fin 32,IntKind.u8.wrap (IntKind.i64.wrap ((BitVec.ofInt IntKind.i64.bits 192 ||| BitVec.ofInt IntKind.i64.bits (x.val:Int)).toNat:Int))=((192+x.val:Nat):Int):=by decide +kernel
theorem lor224:∀x:Fin 16,IntKind.u8.wrap (IntKind.i64.wrap ((BitVec.ofInt IntKind.i64.bits 224 ||| BitVec.ofInt IntKind.i64.bits (x.val:Int)).toNat:Int))=((224+x.val:Nat):Int):=by decide +kernel
theorem lor240:∀x:Fin 8,IntKind.u8.wrap (IntKind.i64.wrap ((BitVec.ofInt IntKind.i64.bits 240 ||| BitVec.ofInt IntKind.i64.bits (x.val:Int)).toNat:Int))=((240+x.val:Nat):Int):=by decide +kernel
theorem Q3 (n:Nat) (h:n<1114112):IntKind.i64.wrap ((BitVec.ofInt IntKind.i64.bits (n:Int) &&& BitVec.ofInt IntKind.i64.bits 63).toNat:Int)=((n % 64:Nat):Int):=by
  have h2:(BitVec.ofInt IntKind.i64.bits 63).toNat=63:=by decide
  rw[BitVec.toNat_and,of64 n (by omega),h2]
  have h3:n &&& 63=n % 64:=Nat.and_two_pow_sub_one_eq_mod n 6
  rw[h3,bw (by omega) (by omega)]
theorem Ym {R:Type} {c:Nat} (hv:vr c) (k:List Int→Option R):gm (c:Int) k=k (zs (enc c)):=by
  have kY:=WK hv
  have e:gm (c:Int) k=Fb (c:Int) k:=rfl
  rw[e]
  unfold Fb
  have s6:=shr64 c 6 (by omega)
  have s12:=shr64 c 12 (by omega)
  have s18:=shr64 c 18 (by omega)
  have p6:c / 2 ^ 6=c / 64:=rfl
  have p12:c / 2 ^ 12=c / 4096:=rfl
  have p18:c / 2 ^ 18=c / 262144:=rfl
  rw[p6]at s6; rw[p12]at s12; rw[p18]at s18
  have cn:∀x:Nat,x<64→IntKind.u8.wrap (IntKind.i64.wrap ((BitVec.ofInt IntKind.i64.bits 128 ||| BitVec.ofInt IntKind.i64.bits (x:Int)).toNat:Int))=((128+x:Nat):Int):=fun x hx=>lor128 ⟨x,hx⟩
  rcases FD hv with ⟨h1,e⟩|⟨h0,h1,e⟩|⟨h0,h1,e⟩|⟨h0,e⟩ <;> rw[e]
  · rw[aB (show (c:Int)<128 by omega),cond_true,wrap8,Nat.mod_eq_of_lt (by omega),zs_enc1 c (by omega)]
  · rw[aV (show ¬(c:Int)<128 by omega),cond_false,aB (show (c:Int)<2048 by omega),cond_true,s6,Q3 c kY,cn _ (by omega)]
    have l:=lor192 ⟨c / 64,by omega⟩
    simp only at l
    rw[l]
    simp only[zs,List.map_cons,List.map_nil,qx (192+c / 64) (by omega),qx (128+c % 64) (by omega)]
  · rw[aV (show ¬(c:Int)<128 by omega),cond_false,aV (show ¬(c:Int)<2048 by omega),cond_false,aB (show (c:Int)<65536 by omega),cond_true,s6,s12,Q3 c kY,Q3 (c / 64) (by omega),cn _ (by omega),cn _ (by omega)]
    have l:=lor224 ⟨c / 4096,by omega⟩
    simp only at l
    rw[l]
    simp only[zs,List.map_cons,List.map_nil,qx (224+c / 4096) (by omega),qx (128+c % 64) (by omega),qx (128+c / 64 % 64) (by omega)]
  · rw[aV (show ¬(c:Int)<128 by omega),cond_false,aV (show ¬(c:Int)<2048 by omega),cond_false,aV (show ¬(c:Int)<65536 by omega),cond_false,s6,s12,s18,Q3 c kY,Q3 (c / 64) (by omega),Q3 (c / 4096) (by omega),cn _ (by omega),cn _ (by omega),cn _ (by omega)]
    have l:=lor240 ⟨c / 262144,by omega⟩
    simp only at l
    rw[l]
    simp only[zs,List.map_cons,List.map_nil,qx (240+c / 262144) (by omega),qx (128+c % 64) (by omega),qx (128+c / 64 % 64) (by omega),qx (128+c / 4096 % 64) (by omega)]
end Go.Proofs.YtmlkkgfenfdndaaGreatDoor
/-
 Functions of the program as pure Lean functions, and the ties; printed by wip/tools/emit.py.
-/
set_option maxRecDepth 100000
namespace Go.Proofs.YtmlkkgfenfdndaaGreatDoor
open Go Go.aG
/-! ### humpyard/humpyardref02.Unquote -/
abbrev p7 (R:Type):Type:=ah→(ah→Int→Bool→Option R)→Option R
abbrev Eu:List bE := [.leaf (.str)]
abbrev Ev:List aA := []
def H7 {R:Type} (fn:p7 R):bE.au Eu→aA.au Ev→(V→aO→Option R)→Option R:=fun x y k=>fn x.1 (fun q0 q1 q2=>k (.tuple [.str q0, .int .i64 q1, .bool q2]) [])
def J6 {R:Type} (fn:p7 R):aG.Spec R→aG.Spec R:=bm Eu Ev (H7 fn)
abbrev lK (R:Type):Type:=Nat→ah→(List Int)→Int→(Option R)→(ah→Int→Bool→Option R)→Option R
def rF {R:Type} (dZ:ng R) (gP:rY R):List (wv R) := [(140,true,(LR dZ bb)),(118,true,(RO gP bb))]
theorem PV {R:Type}:ff (R:=R) Tryz.prog (rF dZ gP) := .p (PT R _ (aM _)) <| .p (UH R _ (aM _)) <| .n
def s7 {R:Type} (dZ:ng R) (gP:rY R) (dq:ah→(List Int)→Int→Option R) (x3:ah) (x4:List Int) (x5:Int) (e0:Option R) (e1:ah→Int→Bool→Option R):Option R :=
 bif (decide (x5<(x3.length:Int)))then (cu (decide ((0:Int)≤x5)&&decide (x5<x3.length)) (bif (((x3.getD x5.toNat 0).toNat:Int)==34)then (e1 (List.map (fun n:Int=>UInt8.ofNat n.toNat) x4:ah) (IntKind.i64.wrap (x5+1)) true)else (cu (decide ((0:Int)≤x5)&&decide (x5<x3.length)) (bif (decide (((x3.getD x5.toNat 0).toNat:Int)<(32:Int)))then (e1 ([]:ah) 0 false)else (cu (decide ((0:Int)≤x5)&&decide (x5<x3.length)) (bif (((x3.getD x5.toNat 0).toNat:Int)==92)then (dZ x3 (IntKind.i64.wrap (x5+1)) (fun y6 y7=>bif (y7==0)then (e1 ([]:ah) 0 false)else (cu (decide ((x4.length+y6.length)*1≤140737488355328)) (dq x3 ((x4:List Int)++(y6:List Int)) (IntKind.i64.wrap ((IntKind.i64.wrap (x5+1))+y7))))))else (gP x3 x5 (fun y8=>bif (y8==0)then (e1 ([]:ah) 0 false)else (cu (decide ((0:Int)≤(IntKind.i64.wrap (x5+y8)))&&decide ((IntKind.i64.wrap (x5+y8))≤x3.length)) (cu (decide ((0:Int)≤x5)&&decide (x5≤(IntKind.i64.wrap (x5+y8)))) (cu (decide ((x4.length+(s9 ((x3.drop x5.toNat).take ((IntKind.i64.wrap (x5+y8)).toNat - x5.toNat))).length)*1≤140737488355328)) (dq x3 ((x4:List Int)++((s9 ((x3.drop x5.toNat).take ((IntKind.i64.wrap (x5+y8)).toNat - x5.toNat))):List Int)) (IntKind.i64.wrap (x5+y8))))))))))))))else (e0)
def bJ {R:Type}:lK R
 | 0,_,_,_,_,_=>none
 | n+1,hY,hZ,iB,e0,e1=>s7 dZ gP (fun hY hZ iB=>bJ n hY hZ iB e0 e1) hY hZ iB e0 e1
def s8:Hint := { live := [0,5,6],own := [(5,(.int .u8))],rows := [],cells := [],drop := [],out := [2,3,4] }
abbrev iS:Type:=ah × (List Int) × Int
def qH:iS→St:=fun d=>⟨.str d.1::U 4 (.sl (.int .u8) d.2.1 (.own 0) :: .int .i64 d.2.2::U 66 ([])), [.tok]⟩
def wM {R:Type} (K:Ex→St→Option R):Option R:=K (.exit 0) ⟨U 73 ([]), []⟩
def wN {R:Type} (K:Ex→St→Option R) (q0:ah) (q1:Int) (q2:Bool):Option R:=K (.ret) ⟨U 2 (.str q0 :: .int .i64 q1 :: .bool q2::U 68 ([])), []⟩
def yo {R:Type} (dZ:ng R) (gP:rY R) (K:Ex→St→Option R) (rc:iS→Option R) (d:iS):Option R:=s7 dZ gP (fun z0 z1 z2=>rc (z0,z1,z2)) d.1 d.2.1 d.2.2 (wM K) (wN K)
def mW {R:Type} (K:Ex→St→Option R) (n:Nat) (d:iS):Option R:=bJ n d.1 d.2.1 d.2.2 (wM K) (wN K)
abbrev iT:List bE := .leaf (.str)::PU 4 (.leaf (.Vt (.int .u8) 0) :: .leaf (.int .i64)::PU 66 ([]))
abbrev iU:List aA := [.tok]
def yp (x:bE.au iT) (y:aA.au iU):Nat:=(List.length x.1+List.length x.2.2.2.2.2.1+Int.natAbs x.2.2.2.2.2.2.1+64)
def yq (x:bE.au iT) (y:aA.au iU):iS:=(x.1,x.2.2.2.2.2.1,x.2.2.2.2.2.2.1)
def wO {R:Type} (L:lK R):bE.au iT→aA.au iU→(Ex→St→Option R)→Option R:=fun x y K=>L (yp x y) x.1 x.2.2.2.2.2.1 x.2.2.2.2.2.2.1 (wM K) (wN K)
def u7 (R:Type) (bJ:lK R):Nat→Option (Hint × dC R):=fun i=>match i with
 | 5=>some (s8,(dx iT iU (wO bJ) j7))
 | _=>none
theorem Jq {R:Type} (dZ:ng R) (gP:rY R) (bJ:lK R) (K:Ex→St→Option R) (rc:St→Option R) (d:iS):roundOf tt (dM (rF dZ gP)) (u7 R bJ) 0 ((aT (aI Tryz.f119)).getD 0 .skip) s8 (qH d) rc K=yo dZ gP K (fun d=>rc (qH d)) d:=by kernel_rfl
theorem Hl {R:Type} (K:Ex→St→Option R) (n:Nat) (d:iS):mW K (n+1) d=yo dZ gP K (mW K n) d:=by kernel_rfl
theorem Hm {R:Type} (K:Ex→St→Option R) (d:iS):mW K 0 d=none:=by kernel_rfl
theorem Jr (x:bE.au iT) (y:aA.au iU):(⟨bE.eD iT x,aA.eD iU y⟩:St)=qH (yq x y):=by kernel_rfl
theorem Js {R:Type} (x:bE.au iT) (y:aA.au iU) (K:Ex→St→Option R):wO (bJ) x y K=mW K (yp x y) (yq x y):=by kernel_rfl
theorem LU {R:Type} (other:dC R) (ho:jt tt (dM (rF dZ gP)) (u7 R bJ) 0 ((aT (aI Tryz.f119)).getD 0 .skip) s8 other):jt tt (dM (rF dZ gP)) (u7 R bJ) 0 ((aT (aI Tryz.f119)).getD 0 .skip) s8 (dx iT iU (wO (bJ)) other) :=
 dL (A:=mW) ho (fw qH (yo dZ gP) (mW) (Hm) (Jq dZ gP bJ) (Hl)) yp yq Jr (Js)
def zA {R:Type} (bJ:lK R) (x1:ah) (k0:ah→Int→Bool→Option R):Option R :=
 bif (decide ((x1.length:Int)<(2:Int)))then (k0 ([]:ah) 0 false)else (cu (decide ((0:Int)<x1.length)) (bif (((x1.getD 0 0).toNat:Int) != 34)then (k0 ([]:ah) 0 false)else (bJ (List.length x1+List.length ([]:List Int)+Int.natAbs 1+64) x1 ([]:List Int) 1 (k0 ([]:ah) 0 false) (fun y9 rI rq=>k0 y9 rI rq))))
def iq {R:Type}:p7 R:=fun x1 k0=>zA bJ x1 k0
theorem Q4 {R:Type} (dZ:ng R) (gP:rY R) (bJ:lK R):gS (R:=R) tt (rF dZ gP) (u7 R bJ) false Tryz.f119 (aI Tryz.f119) Eu Ev (H7 (zA bJ)):=fun x y k=>by kernel_rfl
theorem MS (R:Type):∀a∈aT (aI Tryz.f119),jn tt (dM (rF dZ gP)) (u7 R bJ) 0 a:=by
 refine gR 1 (by kernel_rfl) fun i hi => ?_
 match i,hi with
 | 0,_=>exact cW (by kernel_rfl) (LU _ eN)
 | n+1,hi=>omega
theorem Oy (R:Type):sM Tryz.prog 119 (J6 (iq (R:=R))):=cC TT mixed (PV (R:=R)) rfl rfl rfl rfl (MS R) (Q4 dZ gP bJ)
/-! ### humpyard/humpyardref03.word -/
abbrev vp (R:Type):Type:=ah→Int→Bool→(ah→Option R)→Option R
abbrev Jt:List bE := [.leaf (.str), .leaf (.int .i64), .leaf (.bool)]
abbrev Ju:List aA := []
def ND {R:Type} (fn:vp R):bE.au Jt→aA.au Ju→(V→aO→Option R)→Option R:=fun x y k=>fn x.1 x.2.1 x.2.2.1 (fun q0=>k (.str q0) [])
def PW {R:Type} (fn:vp R):aG.Spec R→aG.Spec R:=bm Jt Ju (ND fn)
abbrev oQ (R:Type):Type:=Nat→ah→Int→Bool→Int→(ah→Int→Int→Option R)→Option R
def C6 {R:Type} (dq:ah→Int→Bool→Int→Option R) (x4:ah) (x5:Int) (x6:Bool) (x7:Int) (e0:ah→Int→Int→Option R):Option R :=
 bif (decide ((IntKind.i64.wrap (x5+x7))<(x4.length:Int)))then (cu (decide ((0:Int)≤(IntKind.i64.wrap (x5+x7)))&&decide ((IntKind.i64.wrap (x5+x7))<x4.length)) (bif x6 then (bif (decide (((x4.getD ((IntKind.i64.wrap (x5+x7)).toNat) 0).toNat:Int)≥(48:Int)))then (bif (decide (((x4.getD ((IntKind.i64.wrap (x5+x7)).toNat) 0).toNat:Int)≤(57:Int)))then (bif (!x6)then (bif (decide (((x4.getD ((IntKind.i64.wrap (x5+x7)).toNat) 0).toNat:Int)<(97:Int)))then (e0 x4 x5 x7)else (bif (decide (((x4.getD ((IntKind.i64.wrap (x5+x7)).toNat) 0).toNat:Int)>(122:Int)))then (e0 x4 x5 x7)else (dq x4 x5 x6 (IntKind.i64.wrap (x7+1)))))else (dq x4 x5 x6 (IntKind.i64.wrap (x7+1))))else (bif (((x4.getD ((IntKind.i64.wrap (x5+x7)).toNat) 0).toNat:Int)==43)then (bif (!x6)then (bif (decide (((x4.getD ((IntKind.i64.wrap (x5+x7)).toNat) 0).toNat:Int)<(97:Int)))then (e0 x4 x5 x7)else (bif (decide (((x4.getD ((IntKind.i64.wrap (x5+x7)).toNat) 0).toNat:Int)>(122:Int)))then (e0 x4 x5 x7)else (dq x4 x5 x6 (IntKind.i64.wrap (x7+1)))))else (dq x4 x5 x6 (IntKind.i64.wrap (x7+1))))else (bif (((x4.getD ((IntKind.i64.wrap (x5+x7)).toNat) 0).toNat:Int)==45)then (bif (!x6)then (bif (decide (((x4.getD ((IntKind.i64.wrap (x5+x7)).toNat) 0).toNat:Int)<(97:Int)))then (e0 x4 x5 x7)else (bif (decide (((x4.getD ((IntKind.i64.wrap (x5+x7)).toNat) 0).toNat:Int)>(122:Int)))then (e0 x4 x5 x7)else (dq x4 x5 x6 (IntKind.i64.wrap (x7+1)))))else (dq x4 x5 x6 (IntKind.i64.wrap (x7+1))))else (bif (((x4.getD ((IntKind.i64.wrap (x5+x7)).toNat) 0).toNat:Int)==46)then (bif (!x6)then (bif (decide (((x4.getD ((IntKind.i64.wrap (x5+x7)).toNat) 0).toNat:Int)<(97:Int)))then (e0 x4 x5 x7)else (bif (decide (((x4.getD ((IntKind.i64.wrap (x5+x7)).toNat) 0).toNat:Int)>(122:Int)))then (e0 x4 x5 x7)else (dq x4 x5 x6 (IntKind.i64.wrap (x7+1)))))else (dq x4 x5 x6 (IntKind.i64.wrap (x7+1))))else (bif (((x4.getD ((IntKind.i64.wrap (x5+x7)).toNat) 0).toNat:Int)==101)then (bif (!x6)then (bif (decide (((x4.getD ((IntKind.i64.wrap (x5+x7)).toNat) 0).toNat:Int)<(97:Int)))then (e0 x4 x5 x7)else (bif (decide (((x4.getD ((IntKind.i64.wrap (x5+x7)).toNat) 0).toNat:Int)>(122:Int)))then (e0 x4 x5 x7)else (dq x4 x5 x6 (IntKind.i64.wrap (x7+1)))))else (dq x4 x5 x6 (IntKind.i64.wrap (x7+1))))else (bif (!(((x4.getD ((IntKind.i64.wrap (x5+x7)).toNat) 0).toNat:Int)==69))then (e0 x4 x5 x7)else (bif (!x6)then (bif (decide (((x4.getD ((IntKind.i64.wrap (x5+x7)).toNat) 0).toNat:Int)<(97:Int)))then (e0 x4 x5 x7)else (bif (decide (((x4.getD ((IntKind.i64.wrap (x5+x7)).toNat) 0).toNat:Int)>(122:Int)))then (e0 x4 x5 x7)else (dq x4 x5 x6 (IntKind.i64.wrap (x7+1)))))else (dq x4 x5 x6 (IntKind.i64.wrap (x7+1))))))))))else (bif (((x4.getD ((IntKind.i64.wrap (x5+x7)).toNat) 0).toNat:Int)==43)then (bif (!x6)then (bif (decide (((x4.getD ((IntKind.i64.wrap (x5+x7)).toNat) 0).toNat:Int)<(97:Int)))then (e0 x4 x5 x7)else (bif (decide (((x4.getD ((IntKind.i64.wrap (x5+x7)).toNat) 0).toNat:Int)>(122:Int)))then (e0 x4 x5 x7)else (dq x4 x5 x6 (IntKind.i64.wrap (x7+1)))))else (dq x4 x5 x6 (IntKind.i64.wrap (x7+1))))else (bif (((x4.getD ((IntKind.i64.wrap (x5+x7)).toNat) 0).toNat:Int)==45)then (bif (!x6)then (bif (decide (((x4.getD ((IntKind.i64.wrap (x5+x7)).toNat) 0).toNat:Int)<(97:Int)))then (e0 x4 x5 x7)else (bif (decide (((x4.getD ((IntKind.i64.wrap (x5+x7)).toNat) 0).toNat:Int)>(122:Int)))then (e0 x4 x5 x7)else (dq x4 x5 x6 (IntKind.i64.wrap (x7+1)))))else (dq x4 x5 x6 (IntKind.i64.wrap (x7+1))))else (bif (((x4.getD ((IntKind.i64.wrap (x5+x7)).toNat) 0).toNat:Int)==46)then (bif (!x6)then (bif (decide (((x4.getD ((IntKind.i64.wrap (x5+x7)).toNat) 0).toNat:Int)<(97:Int)))then (e0 x4 x5 x7)else (bif (decide (((x4.getD ((IntKind.i64.wrap (x5+x7)).toNat) 0).toNat:Int)>(122:Int)))then (e0 x4 x5 x7)else (dq x4 x5 x6 (IntKind.i64.wrap (x7+1)))))else (dq x4 x5 x6 (IntKind.i64.wrap (x7+1))))else (bif (((x4.getD ((IntKind.i64.wrap (x5+x7)).toNat) 0).toNat:Int)==101)then (bif (!x6)then (bif (decide (((x4.getD ((IntKind.i64.wrap (x5+x7)).toNat) 0).toNat:Int)<(97:Int)))then (e0 x4 x5 x7)else (bif (decide (((x4.getD ((IntKind.i64.wrap (x5+x7)).toNat) 0).toNat:Int)>(122:Int)))then (e0 x4 x5 x7)else (dq x4 x5 x6 (IntKind.i64.wrap (x7+1)))))else (dq x4 x5 x6 (IntKind.i64.wrap (x7+1))))else (bif (!(((x4.getD ((IntKind.i64.wrap (x5+x7)).toNat) 0).toNat:Int)==69))then (e0 x4 x5 x7)else (bif (!x6)then (bif (decide (((x4.getD ((IntKind.i64.wrap (x5+x7)).toNat) 0).toNat:Int)<(97:Int)))then (e0 x4 x5 x7)else (bif (decide (((x4.getD ((IntKind.i64.wrap (x5+x7)).toNat) 0).toNat:Int)>(122:Int)))then (e0 x4 x5 x7)else (dq x4 x5 x6 (IntKind.i64.wrap (x7+1)))))else (dq x4 x5 x6 (IntKind.i64.wrap (x7+1))))))))))else (bif (!x6)then (bif (decide (((x4.getD ((IntKind.i64.wrap (x5+x7)).toNat) 0).toNat:Int)<(97:Int)))then (e0 x4 x5 x7)else (bif (decide (((x4.getD ((IntKind.i64.wrap (x5+x7)).toNat) 0).toNat:Int)>(122:Int)))then (e0 x4 x5 x7)else (dq x4 x5 x6 (IntKind.i64.wrap (x7+1)))))else (dq x4 x5 x6 (IntKind.i64.wrap (x7+1))))))else (e0 x4 x5 x7)
def cB {R:Type}:oQ R
 | 0,_,_,_,_,_=>none
 | n+1,hY,hZ,iB,ql,e0=>C6 (fun hY hZ iB ql=>cB n hY hZ iB ql e0) hY hZ iB ql e0
def xo:Hint := { live := [0,1,2,7],own := [],rows := [],cells := [],drop := [],out := [0,1,6,7] }
abbrev lL:Type:=ah × Int × Bool × Int
def uu:lL→St:=fun d=>⟨.str d.1 :: .int .i64 d.2.1 :: .bool d.2.2.1::U 4 (.int .i64 d.2.2.2::U 62 ([])), []⟩
def BO {R:Type} (K:Ex→St→Option R) (q0:ah) (q1:Int) (q2:Int):Option R:=K (.exit 0) ⟨.str q0 :: .int .i64 q1::U 5 (.int .i64 q2::U 62 ([])), []⟩
def C7 {R:Type} (K:Ex→St→Option R) (rc:lL→Option R) (d:lL):Option R:=C6 (fun z0 z1 z2 z3=>rc (z0,z1,z2,z3)) d.1 d.2.1 d.2.2.1 d.2.2.2 (BO K)
def p8 {R:Type} (K:Ex→St→Option R) (n:Nat) (d:lL):Option R:=cB n d.1 d.2.1 d.2.2.1 d.2.2.2 (BO K)
abbrev lM:List bE := .leaf (.str) :: .leaf (.int .i64) :: .leaf (.bool)::PU 4 (.leaf (.int .i64)::PU 62 ([]))
abbrev lN:List aA := []
def C8 (x:bE.au lM) (y:aA.au lN):Nat:=(List.length x.1+Int.natAbs x.2.1+Int.natAbs x.2.2.2.2.2.2.2.1+64)
def C9 (x:bE.au lM) (y:aA.au lN):lL:=(x.1,x.2.1,x.2.2.1,x.2.2.2.2.2.2.2.1)
def BP {R:Type} (L:oQ R):bE.au lM→aA.au lN→(Ex→St→Option R)→Option R:=fun x y K=>L (C8 x y) x.1 x.2.1 x.2.2.1 x.2.2.2.2.2.2.2.1 (BO K)
def BQ (R:Type) (cB:oQ R):Nat→Option (Hint × dC R):=fun i=>match i with
 | 2=>some (xo,(dx lM lN (BP cB) j7))
 | _=>none
theorem MT {R:Type} (cB:oQ R) (K:Ex→St→Option R) (rc:St→Option R) (d:lL):roundOf tt (dM []) (BQ R cB) 0 ((aT (aI Tryz.f120)).getD 0 .skip) xo (uu d) rc K=C7 K (fun d=>rc (uu d)) d:=by kernel_rfl
theorem KA {R:Type} (K:Ex→St→Option R) (n:Nat) (d:lL):p8 K (n+1) d=C7 K (p8 K n) d:=by kernel_rfl
theorem KB {R:Type} (K:Ex→St→Option R) (d:lL):p8 K 0 d=none:=by kernel_rfl
theorem MU (x:bE.au lM) (y:aA.au lN):(⟨bE.eD lM x,aA.eD lN y⟩:St)=uu (C9 x y):=by kernel_rfl
theorem MV {R:Type} (x:bE.au lM) (y:aA.au lN) (K:Ex→St→Option R):BP (cB) x y K=p8 K (C8 x y) (C9 x y):=by kernel_rfl
theorem PX {R:Type} (other:dC R) (ho:jt tt (dM []) (BQ R cB) 0 ((aT (aI Tryz.f120)).getD 0 .skip) xo other):jt tt (dM []) (BQ R cB) 0 ((aT (aI Tryz.f120)).getD 0 .skip) xo (dx lM lN (BP (cB)) other) :=
 dL (A:=p8) ho (fw uu (C7) (p8) (KB) (MT cB) (KA)) C8 C9 MU (MV)
def Fe {R:Type} (cB:oQ R) (x1:ah) (x2:Int) (x3:Bool) (k0:ah→Option R):Option R :=
 cB (List.length x1+Int.natAbs x2+Int.natAbs 0+64) x1 x2 x3 0 (fun y9 rI rq=>cu (decide ((0:Int)≤(IntKind.i64.wrap (rI+rq)))&&decide ((IntKind.i64.wrap (rI+rq))≤y9.length)) (cu (decide ((0:Int)≤rI)&&decide (rI≤(IntKind.i64.wrap (rI+rq)))) (k0 ((y9.drop rI.toNat).take ((IntKind.i64.wrap (rI+rq)).toNat - rI.toNat)))))
def jH {R:Type}:vp R:=fun x1 x2 x3 k0=>Fe cB x1 x2 x3 k0
theorem V1 {R:Type} (cB:oQ R):gS (R:=R) tt [] (BQ R cB) false Tryz.f120 (aI Tryz.f120) Jt Ju (ND (Fe cB)):=fun x y k=>by kernel_rfl
theorem Q5 (R:Type):∀a∈aT (aI Tryz.f120),jn tt (dM []) (BQ R cB) 0 a:=by
 refine gR 1 (by kernel_rfl) fun i hi => ?_
 match i,hi with
 | 0,_=>exact cW (by kernel_rfl) (PX _ eN)
 | n+1,hi=>omega
theorem SB (R:Type):sM Tryz.prog 120 (PW (jH (R:=R))):=cC TT mixed .n rfl rfl rfl rfl (Q5 R) (V1 cB)
/-! ### humpyard/humpyardref01.digits -/
abbrev j0 (R:Type):Type:=ah→Int→(Int→Option R)→Option R
abbrev F3:List bE := [.leaf (.str), .leaf (.int .i64)]
abbrev F4:List aA := []
def J7 {R:Type} (fn:j0 R):bE.au F3→aA.au F4→(V→aO→Option R)→Option R:=fun x y k=>fn x.1 x.2.1 (fun q0=>k (.int .i64 q0) [])
def LV {R:Type} (fn:j0 R):aG.Spec R→aG.Spec R:=bm F3 F4 (J7 fn)
abbrev mX (R:Type):Type:=Nat→ah→Int→Int→(Int→Option R)→Option R
def zY {R:Type} (dq:ah→Int→Int→Option R) (x3:ah) (x4:Int) (x5:Int) (e0:Int→Option R):Option R :=
 bif (decide ((IntKind.i64.wrap (x4+x5))<(x3.length:Int)))then (cu (decide ((0:Int)≤(IntKind.i64.wrap (x4+x5)))&&decide ((IntKind.i64.wrap (x4+x5))<x3.length)) (bif (decide (((x3.getD ((IntKind.i64.wrap (x4+x5)).toNat) 0).toNat:Int)≥(48:Int)))then (cu (decide ((0:Int)≤(IntKind.i64.wrap (x4+x5)))&&decide ((IntKind.i64.wrap (x4+x5))<x3.length)) (bif (decide (((x3.getD ((IntKind.i64.wrap (x4+x5)).toNat) 0).toNat:Int)≤(57:Int)))then (dq x3 x4 (IntKind.i64.wrap (x5+1)))else (e0 x5)))else (e0 x5)))else (e0 x5)
def cx {R:Type}:mX R
 | 0,_,_,_,_=>none
 | n+1,hY,hZ,iB,e0=>zY (fun hY hZ iB=>cx n hY hZ iB e0) hY hZ iB e0
def uv:Hint := { live := [0,1,5],own := [],rows := [],cells := [],drop := [],out := [4,5] }
abbrev jI:Type:=ah × Int × Int
def r3:jI→St:=fun d=>⟨.str d.1 :: .int .i64 d.2.1::U 3 (.int .i64 d.2.2::U 25 ([])), []⟩
def yr {R:Type} (K:Ex→St→Option R) (q0:Int):Option R:=K (.exit 0) ⟨U 5 (.int .i64 q0::U 25 ([])), []⟩
def zZ {R:Type} (K:Ex→St→Option R) (rc:jI→Option R) (d:jI):Option R:=zY (fun z0 z1 z2=>rc (z0,z1,z2)) d.1 d.2.1 d.2.2 (yr K)
def nU {R:Type} (K:Ex→St→Option R) (n:Nat) (d:jI):Option R:=cx n d.1 d.2.1 d.2.2 (yr K)
abbrev jJ:List bE := .leaf (.str) :: .leaf (.int .i64)::PU 3 (.leaf (.int .i64)::PU 25 ([]))
abbrev jK:List aA := []
def Aa (x:bE.au jJ) (y:aA.au jK):Nat:=(List.length x.1+Int.natAbs x.2.1+Int.natAbs x.2.2.2.2.2.1+64)
def Ab (x:bE.au jJ) (y:aA.au jK):jI:=(x.1,x.2.1,x.2.2.2.2.2.1)
def yt {R:Type} (L:mX R):bE.au jJ→aA.au jK→(Ex→St→Option R)→Option R:=fun x y K=>L (Aa x y) x.1 x.2.1 x.2.2.2.2.2.1 (yr K)
def wP (R:Type) (cx:mX R):Nat→Option (Hint × dC R):=fun i=>match i with
 | 2=>some (uv,(dx jJ jK (yt cx) j7))
 | _=>none
theorem KC {R:Type} (cx:mX R) (K:Ex→St→Option R) (rc:St→Option R) (d:jI):roundOf tt (dM []) (wP R cx) 0 ((aT (aI Tryz.f141)).getD 0 .skip) uv (r3 d) rc K=zZ K (fun d=>rc (r3 d)) d:=by kernel_rfl
theorem H8 {R:Type} (K:Ex→St→Option R) (n:Nat) (d:jI):nU K (n+1) d=zZ K (nU K n) d:=by kernel_rfl
theorem H9 {R:Type} (K:Ex→St→Option R) (d:jI):nU K 0 d=none:=by kernel_rfl
theorem KD (x:bE.au jJ) (y:aA.au jK):(⟨bE.eD jJ x,aA.eD jK y⟩:St)=r3 (Ab x y):=by kernel_rfl
theorem KE {R:Type} (x:bE.au jJ) (y:aA.au jK) (K:Ex→St→Option R):yt (cx) x y K=nU K (Aa x y) (Ab x y):=by kernel_rfl
theorem MW {R:Type} (other:dC R) (ho:jt tt (dM []) (wP R cx) 0 ((aT (aI Tryz.f141)).getD 0 .skip) uv other):jt tt (dM []) (wP R cx) 0 ((aT (aI Tryz.f141)).getD 0 .skip) uv (dx jJ jK (yt (cx)) other) :=
 dL (A:=nU) ho (fw r3 (zZ) (nU) (H9) (KC cx) (H8)) Aa Ab KD (KE)
def LW {R:Type} (cx:mX R) (x1:ah) (x2:Int) (k0:Int→Option R):Option R :=
 cx (List.length x1+Int.natAbs x2+Int.natAbs 0+64) x1 x2 0 (fun y7=>k0 y7)
def bT {R:Type}:j0 R:=fun x1 x2 k0=>LW cx x1 x2 k0
theorem SC {R:Type} (cx:mX R):gS (R:=R) tt [] (wP R cx) false Tryz.f141 (aI Tryz.f141) F3 F4 (J7 (LW cx)):=fun x y k=>by kernel_rfl
theorem Oz (R:Type):∀a∈aT (aI Tryz.f141),jn tt (dM []) (wP R cx) 0 a:=by
 refine gR 1 (by kernel_rfl) fun i hi => ?_
 match i,hi with
 | 0,_=>exact cW (by kernel_rfl) (MW _ eN)
 | n+1,hi=>omega
theorem PY (R:Type):sM Tryz.prog 141 (LV (bT (R:=R))):=cC TT mixed .n rfl rfl rfl rfl (Oz R) (SC cx)
end Go.Proofs.YtmlkkgfenfdndaaGreatDoor
set_option maxRecDepth 100000
namespace Go.Proofs.YtmlkkgfenfdndaaGreatDoor
open Go Go.aG Go.Lib
theorem drop_cons {s:ah} {p:Nat} (h:p<s.length):s.drop p=s.getD p 0::s.drop (p+1):=by
  rw[List.drop_eq_getElem_cons h]; simp[List.getD,h]
theorem pre2 (a b:UInt8) (s:ah) (p:Nat):([a,b]:ah).isPrefixOf (s.drop p)=(decide (p+2≤s.length)&&(a==s.getD p 0&&b==s.getD (p+1) 0)):=by
  by_cases h:p+2≤s.length
  · rw[aB h,drop_cons (show p<s.length by omega),drop_cons (show p+1<s.length by omega)]
    simp[List.isPrefixOf]
  · rw[aV h,Bool.false_and]
    by_cases h1:p<s.length
    · rw[drop_cons h1]
      have:s.drop (p+1) = []:=List.drop_eq_nil_of_le (by omega)
      rw[this]
      simp[List.isPrefixOf]
    · have:s.drop p = []:=List.drop_eq_nil_of_le (by omega)
      rw[this]
      rfl
theorem beqN (b:UInt8) (n:Nat) (hn:n<256):(UInt8.ofNat n==b)=decide (b.toNat=n):=by
  by_cases h:b.toNat=n
  · rw[aB h]
    subst h
    simp
  · rw[aV h]
    exact u8_ne hn h
theorem neI (n m:Nat):((n:Int) != (m:Int))=decide (n≠m):=by
  by_cases h:n=m
  · subst h; simp
  · have:¬((n:Int)=(m:Int)):=by omega
    simp[h,this]
theorem uni_ok {R:Type} (s:ah) (p:Nat) (hs:s.length≤9000000000000) (hp:p+1≤s.length) (k:List Int→Int→Option R) :
    (match LA (s.drop (p+1))with
     | some (c,r)=>∃n:Nat,1≤n∧p+n≤s.length∧r=s.drop (p+n)∧(ia s (IntKind.i64.wrap ((p:Int)+1)) (fun y4=>let Z0:=bif (decide (y4<(55296:Int)))then (gm y4 (fun y8=>k y8 5))else (bif (decide (y4>(57343:Int)))then (gm y4 (fun y9=>k y9 5))else (bif (decide ((IntKind.i64.wrap ((p:Int)+7))>(s.length:Int)))then (k ([]:List Int) 0)else (cu (decide ((0:Int)≤(IntKind.i64.wrap ((p:Int)+5)))&&decide ((IntKind.i64.wrap ((p:Int)+5))<s.length)) (bif (((s.getD ((IntKind.i64.wrap ((p:Int)+5)).toNat) 0).toNat:Int) != 92)then (k ([]:List Int) 0)else (cu (decide ((0:Int)≤(IntKind.i64.wrap ((p:Int)+6)))&&decide ((IntKind.i64.wrap ((p:Int)+6))<s.length)) (bif (((s.getD ((IntKind.i64.wrap ((p:Int)+6)).toNat) 0).toNat:Int) != 117)then (k ([]:List Int) 0)else (ia s (IntKind.i64.wrap ((p:Int)+7)) (fun rq=>bif (decide (rq<(56320:Int)))then (k ([]:List Int) 0)else (bif (decide (rq>(57343:Int)))then (k ([]:List Int) 0)else (gm (IntKind.i64.wrap ((IntKind.i64.wrap ((IntKind.i64.wrap (65536+(IntKind.i64.wrap ((IntKind.i64.wrap (y4 - 55296))*2 ^ (min 10 IntKind.i64.bits)))))+rq)) - 56320)) (fun G8=>k G8 11))))))))))); bif (decide (y4<(0:Int)))then (k ([]:List Int) 0)else (bif (decide (y4≥(56320:Int)))then (bif (decide (y4≤(57343:Int)))then (k ([]:List Int) 0)else (Z0))else (Z0))))=k (zs (enc c)) (n:Int)
     | none=>(ia s (IntKind.i64.wrap ((p:Int)+1)) (fun y4=>let Z0:=bif (decide (y4<(55296:Int)))then (gm y4 (fun y8=>k y8 5))else (bif (decide (y4>(57343:Int)))then (gm y4 (fun y9=>k y9 5))else (bif (decide ((IntKind.i64.wrap ((p:Int)+7))>(s.length:Int)))then (k ([]:List Int) 0)else (cu (decide ((0:Int)≤(IntKind.i64.wrap ((p:Int)+5)))&&decide ((IntKind.i64.wrap ((p:Int)+5))<s.length)) (bif (((s.getD ((IntKind.i64.wrap ((p:Int)+5)).toNat) 0).toNat:Int) != 92)then (k ([]:List Int) 0)else (cu (decide ((0:Int)≤(IntKind.i64.wrap ((p:Int)+6)))&&decide ((IntKind.i64.wrap ((p:Int)+6))<s.length)) (bif (((s.getD ((IntKind.i64.wrap ((p:Int)+6)).toNat) 0).toNat:Int) != 117)then (k ([]:List Int) 0)else (ia s (IntKind.i64.wrap ((p:Int)+7)) (fun rq=>bif (decide (rq<(56320:Int)))then (k ([]:List Int) 0)else (bif (decide (rq>(57343:Int)))then (k ([]:List Int) 0)else (gm (IntKind.i64.wrap ((IntKind.i64.wrap ((IntKind.i64.wrap (65536+(IntKind.i64.wrap ((IntKind.i64.wrap (y4 - 55296))*2 ^ (min 10 IntKind.i64.bits)))))+rq)) - 56320)) (fun G8=>k G8 11))))))))))); bif (decide (y4<(0:Int)))then (k ([]:List Int) 0)else (bif (decide (y4≥(56320:Int)))then (bif (decide (y4≤(57343:Int)))then (k ([]:List Int) 0)else (Z0))else (Z0))))=k [] 0):=by
  have w1:IntKind.i64.wrap ((p:Int)+1)=((p+1:Nat):Int):=by rw[bw (by omega) (by omega)]; omega
  have w5:IntKind.i64.wrap ((p:Int)+5)=((p+5:Nat):Int):=by rw[bw (by omega) (by omega)]; omega
  have w6:IntKind.i64.wrap ((p:Int)+6)=((p+6:Nat):Int):=by rw[bw (by omega) (by omega)]; omega
  have w7:IntKind.i64.wrap ((p:Int)+7)=((p+7:Nat):Int):=by rw[bw (by omega) (by omega)]; omega
  have n92:∀x:Nat,((x:Int) != 92)=decide (x≠92):=fun x=>neI x 92
  have n117:∀x:Nat,((x:Int) != 117)=decide (x≠117):=fun x=>neI x 117
  simp only[w1,w5,w6,w7,four_ok s (p+1) (by omega) hp,Int.toNat_natCast,n92,n117]
  unfold LA
  cases hu:EP (s.drop (p+1))with
  | none =>
    simp only
    rw[aB (show (-1:Int)<0 by omega),cond_true]
  | some q =>
    obtain ⟨v,r⟩:=q
    obtain ⟨hv,hl,hr⟩:=Bo hu
    rw[List.length_drop]at hl
    rw[List.drop_drop]at hr
    have hr5:r=s.drop (p+5):=by rw[hr]
    simp only
    rw[aV (show ¬(v:Int)<0 by omega)]
    by_cases h1:v<55296
    · rw[if_pos (.inl h1),aV (show ¬(v:Int)≥56320 by omega),aB (show (v:Int)<55296 by omega)]
      simp only[cond_true,cond_false]
      exact ⟨5,by omega,by omega,hr5,Ym (by unfold vr; omega) _⟩
    by_cases h2:57344≤v
    · rw[if_pos (.inr h2),aB (show (v:Int)≥56320 by omega),aV (show ¬(v:Int)≤57343 by omega),aV (show ¬(v:Int)<55296 by omega),aB (show (v:Int)>57343 by omega)]
      simp only[cond_true,cond_false]
      exact ⟨5,by omega,by omega,hr5,Ym (by unfold vr; omega) _⟩
    rw[if_neg (by omega)]
    by_cases h3:56320≤v
    · rw[if_pos h3,aB (show (v:Int)≥56320 by omega),aB (show (v:Int)≤57343 by omega)]
      rfl
    rw[if_neg h3,aV (show ¬(v:Int)≥56320 by omega),aV (show ¬(v:Int)<55296 by omega),aV (show ¬(v:Int)>57343 by omega)]
    simp only[cond_false]
    rw[hr5,pre2]
    by_cases h7:p+7≤s.length
    · have e92:((92:UInt8)==s.getD (p+5) 0)=decide ((s.getD (p+5) 0).toNat=92):=beqN _ 92 (by omega)
      have e117:((117:UInt8)==s.getD (p+5+1) 0)=decide ((s.getD (p+6) 0).toNat=117):=beqN _ 117 (by omega)
      rw[aB (show p+5+2≤s.length by omega),aV (show ¬((p+7:Nat):Int)>(s.length:Int) by omega),cond_false,aS (by rw[aB (by omega),aB (by omega)]; rfl),aS (by rw[aB (by omega),aB (by omega)]; rfl),e92,e117]
      by_cases g1:(s.getD (p+5) 0).toNat=92
      · by_cases g2:(s.getD (p+6) 0).toNat=117
        · rw[aB g1,aB g2,aV (show ¬(s.getD (p+5) 0).toNat≠92 from fun h=>h g1),aV (show ¬(s.getD (p+6) 0).toNat≠117 from fun h=>h g2)]
          simp only[Bool.and_self,if_true,cond_false,List.drop_drop]
          rw[four_ok s (p+7) (by omega) h7]
          have e57:p+5+2=p+7:=rfl
          rw[e57]
          cases hu2:EP (s.drop (p+7))with
          | none =>
            simp only
            rw[aB (show (-1:Int)<56320 by omega),cond_true]
          | some q2 =>
            obtain ⟨w,r2⟩:=q2
            obtain ⟨hw,VE,hr2⟩:=Bo hu2
            rw[List.length_drop]at VE
            rw[List.drop_drop]at hr2
            simp only
            by_cases h4:56320≤w∧w<57344
            · rw[if_pos h4,aV (show ¬(w:Int)<56320 by omega),cond_false,aV (show ¬(w:Int)>57343 by omega),cond_false]
              simp only
              have k1:IntKind.i64.wrap ((v:Int) - 55296)=((v - 55296:Nat):Int):=by rw[bw (by omega) (by omega)]; omega
              have k2:IntKind.i64.wrap ((((v - 55296:Nat):Int))*2 ^ (min 10 IntKind.i64.bits))=(((v - 55296)*1024:Nat):Int):=by
                have e:(((v - 55296:Nat):Int))*2 ^ (min 10 IntKind.i64.bits)=(((v - 55296)*1024:Nat):Int):=by
                  show (((v - 55296:Nat):Int))*2 ^ 10=_
                  omega
                rw[e,bw (by omega) (by omega)]
              rw[k1,k2,bw (n:=65536+(((v - 55296)*1024:Nat):Int)) (by omega) (by omega),bw (n:=65536+(((v - 55296)*1024:Nat):Int)+(w:Int)) (by omega) (by omega),bw (by omega) (by omega)]
              have e3:65536+(((v - 55296)*1024:Nat):Int)+(w:Int) - 56320=((65536+(v - 55296)*1024+(w - 56320):Nat):Int):=by omega
              rw[e3]
              exact ⟨11,by omega,by omega,by rw[hr2],Ym (by unfold vr; omega) _⟩
            · rw[if_neg h4]
              simp only
              by_cases h5:w<56320
              · rw[aB (show (w:Int)<56320 by omega),cond_true]
              · rw[aV (show ¬(w:Int)<56320 by omega),cond_false,aB (show (w:Int)>57343 by omega),cond_true]
        · rw[aB g1,aV g2,aV (show ¬(s.getD (p+5) 0).toNat≠92 from fun h=>h g1),aB (show (s.getD (p+6) 0).toNat≠117 from g2)]
          rfl
      · rw[aV g1,aB (show (s.getD (p+5) 0).toNat≠92 from g1)]
        rfl
    · rw[aV (show ¬p+5+2≤s.length by omega),aB (show ((p+7:Nat):Int)>(s.length:Int) by omega)]
      rfl
theorem escape_ok {R:Type} (s:ah) (p:Nat) (hs:s.length≤9000000000000) (k:List Int→Int→Option R) :
    match UE (s.drop p)with
    | some (c,r)=>∃n:Nat,1≤n∧p+n≤s.length∧r=s.drop (p+n)∧dZ s (p:Int) k=k (zs (enc c)) (n:Int)
    | none=>dZ s (p:Int) k=k [] 0:=by
  have e:dZ s (p:Int) k=BN ia gm s (p:Int) k:=rfl
  rw[e]
  unfold BN
  by_cases h:p<s.length
  · have hu:=uni_ok (R:=R) s p hs (by omega) k
    rw[drop_cons h,aV (show ¬(p:Int)≥(s.length:Int) by omega),cond_false,aS (by rw[aB (by omega),aB (by omega)]; rfl)]
    dsimp only
    rw[Int.toNat_natCast,aS (by rw[aB (by omega),aB (by omega)]; rfl)]
    dsimp only at hu
    generalize hF:ia s (IntKind.i64.wrap ((p:Int)+1)) _=F at hu ⊢
    simp only[UE]
    have hb:=UInt8.toNat_lt (s.getD p 0)
    have hz:∀b:UInt8,([(b.toNat:Int)]:List Int)=zs (enc b.toNat)∨128≤b.toNat:=fun b=>by
      by_cases h1:b.toNat<128
      · left; rw[enc1 h1]; simp
      · right; omega
    have hz:=hz (s.getD p 0)
    generalize (s.getD p 0).toNat=b at *
    have q34:((b:Int)==34)=decide (b=34):=Q2 _ 34
    have q92:((b:Int)==92)=decide (b=92):=Q2 _ 92
    have q47:((b:Int)==47)=decide (b=47):=Q2 _ 47
    have q98:((b:Int)==98)=decide (b=98):=Q2 _ 98
    have q102:((b:Int)==102)=decide (b=102):=Q2 _ 102
    have q110:((b:Int)==110)=decide (b=110):=Q2 _ 110
    have q114:((b:Int)==114)=decide (b=114):=Q2 _ 114
    have q116:((b:Int)==116)=decide (b=116):=Q2 _ 116
    have q117:((b:Int)==117)=decide (b=117):=Q2 _ 117
    rw[q34,q92,q47,q98,q102,q110,q114,q116,q117]
    have one:∀c:Nat,c<128→∀l:List Int,l = [(c:Int)]→∃n:Nat,1≤n∧p+n≤s.length∧s.drop (p+1)=s.drop (p+n)∧k l 1=k (zs (enc c)) (n:Int):=fun c hc l hl=>by
      refine ⟨1,by omega,by omega,rfl,?_⟩
      rw[hl,enc1 hc]
      simp only[zs,List.map_cons,List.map_nil,qx c (by omega)]
      rfl
    by_cases J4:b=34
    · subst J4; exact one 34 (by omega) _ rfl
    by_cases WV:b=92
    · subst WV; exact one 92 (by omega) _ rfl
    by_cases h47:b=47
    · subst h47; exact one 47 (by omega) _ rfl
    simp only[J4,WV,h47,decide_false,cond_false,or_self,if_false]
    by_cases h98:b=98
    · subst h98; exact one 8 (by omega) _ rfl
    by_cases h102:b=102
    · subst h102; exact one 12 (by omega) _ rfl
    by_cases h110:b=110
    · subst h110; exact one 10 (by omega) _ rfl
    by_cases h114:b=114
    · subst h114; exact one 13 (by omega) _ rfl
    by_cases h116:b=116
    · subst h116; exact one 9 (by omega) _ rfl
    simp only[h98,h102,h110,h114,h116,decide_false,cond_false,if_false]
    by_cases h117:b=117
    · simp only[h117,decide_true,cond_true,if_true]
      exact hu
    · simp only[h117,decide_false,cond_false,if_false]
  · have:s.drop p = []:=List.drop_eq_nil_of_le (by omega)
    rw[this,aB (show (p:Int)≥(s.length:Int) by omega),cond_true]
    rfl
theorem dec_all (u:Nat):∀b∈decDigits u,48≤b.toNat∧b.toNat≤57:=by
 induction u using Nat.strongRecOn with
 | _ u ih =>
  intro b hb
  by_cases h:u<10
  ·rw[decDigits,dif_pos h]at hb
   simp only[List.mem_cons,List.not_mem_nil,or_false]at hb
   subst hb
   rw[iV _ (by omega)]; omega
  ·rw[decDigits,dif_neg h]at hb
   rcases List.mem_append.1 hb with hb|hb
   ·exact ih (u / 10) (by omega) b hb
   ·simp only[List.mem_cons,List.not_mem_nil,or_false]at hb
    subst hb
    rw[iV _ (by omega)]; omega
theorem WW (u:Nat) (hu:0<u):∃b t,decDigits u=b::t∧b.toNat≠48:=by
 induction u using Nat.strongRecOn with
 | _ u ih =>
  by_cases h:u<10
  ·exact ⟨_, [],by rw[decDigits,dif_pos h],by rw[iV _ (by omega)]; omega⟩
  ·obtain ⟨b,t,e,hb⟩:=ih (u / 10) (by omega) (by omega)
   exact ⟨b,t ++ [UInt8.ofNat (48+u % 10)],by rw[decDigits,dif_neg h,e]; rfl,hb⟩
theorem dec_last (u:Nat):∃l,decDigits u=l ++ [UInt8.ofNat (48+u % 10)]:=by
 by_cases h:u<10
 ·exact ⟨[],by rw[decDigits,dif_pos h,Nat.mod_eq_of_lt h]; rfl⟩
 ·exact ⟨decDigits (u / 10),by rw[decDigits,dif_neg h]⟩
theorem tmod_abs {m:Int} (h:Int.tmod m 10≠0):m.natAbs % 10≠0:=by
 intro h2
 apply h
 have e:m=(m / 10)*10:=by omega
 rw[e]
 exact Int.mul_tmod_left _ _
theorem Tb (c:UInt8):∀l:ah,Go.Lib.indexByte l c<0↔l.contains c=false
 | []=>by simp[Go.Lib.indexByte]
 | x::l=>by
  have ih:=Tb c l
  have hg:=Go.Lib.indexByte_ge l c
  unfold Go.Lib.indexByte
  rw[List.contains_cons]
  by_cases h:x=c
  ·subst h; simp
  ·have h2:(c==x)=false:=by rw[beq_eq_false_iff_ne]; exact fun e=>h e.symm
   rw[h2,Bool.false_or,←ih]
   split
   ·rename_i h3; exact (h (beq_iff_eq.1 h3)).elim
   ·split
    ·rename_i h4
     have:=beq_iff_eq.1 h4
     omega
    ·rename_i h4
     have:¬Go.Lib.indexByte l c = -1:=fun e=>h4 (beq_iff_eq.2 e)
     omega
def gh (Ia s:ah):Nat × ah:=match s with | []=>(0, [])|b::t=>if Ia.contains b then (b.toNat,t)else (0,b::t)
theorem Ff {R:Type} (Ia s:ah) (hs:s.length≤4000000000) (k:Int→ah→Option R):bc Ia s k=k ((gh Ia s).1:Int) (gh Ia s).2:=by
 have e:bc Ia s k=mr Ia s k:=rfl
 rw[e]
 unfold mr
 cases s with
 | nil=>rfl
 | cons b t =>
  simp only[List.length_cons]at hs
  have ju:((b::t:ah)==([]:ah))=false:=rfl
  have hg:((b::t:ah).getD 0 0)=b:=rfl
  have hd:((b::t:ah).drop 1).take (((b::t:ah).length:Int).toNat - 1)=t:=by
   rw[Int.toNat_natCast,List.drop_succ_cons,List.drop_zero,List.length_cons,Nat.add_sub_cancel,List.take_length]
  have hi:Dt Ia ((b.toNat:Nat):Int)=Go.Lib.indexByte Ia b:=by
   unfold Dt
   rw[Int.toNat_natCast]
   simp
  have hl:(b::t:ah).length=t.length+1:=rfl
  rw[ju,cond_false,hg,hd,hi,hl,aS (aB (by omega))]
  unfold gh
  cases hc:Ia.contains b with
  | false =>
   rw[aB ((Tb b Ia).2 hc),cond_true]
   simp only[hc,Bool.false_eq_true,if_false]
   rfl
  | true =>
   have:¬Go.Lib.indexByte Ia b<0:=fun h=>by rw[(Tb b Ia).1 h]at hc; cases hc
   rw[aV this,cond_false,aS (aB (by omega)),aS (by rw[aB (show (0:Int)≤((t.length+1:Nat):Int) by omega),aB (by omega)]; rfl),aS (aB (by omega))]
   simp only[hc,if_true]
def digS:ah := [48,49,50,51,52,53,54,55,56,57]
def me (b:UInt8):Prop:=48≤b.toNat∧b.toNat≤57
theorem digS_all:∀n:Fin 256,digS.contains (UInt8.ofNat n.val)=decide (48≤n.val∧n.val≤57):=by decide +kernel
theorem Yn (b:UInt8):digS.contains b=decide (48≤b.toNat∧b.toNat≤57):=by
 have:=digS_all ⟨b.toNat,UInt8.toNat_lt b⟩
 simpa using this
theorem Mn (p:UInt8→Bool):∀(a r:ah),(∀x∈a,p x=true)→(a++r).dropWhile p=r.dropWhile p
 | [],r,_=>rfl
 | x::a,r,h=>by
  rw[List.cons_append,List.dropWhile_cons,h x (by simp),if_pos rfl]
  exact Mn p a r fun y hy=>h y (by simp[hy])
theorem OA (p:UInt8→Bool) (r:ah) (h:∀b t,r=b::t→p b=false):r.dropWhile p=r:=by
 cases r with
 | nil=>rfl
 | cons b t=>rw[List.dropWhile_cons,h b t rfl]; rfl
theorem Q6 {R:Type} (a r:ah) (ha:∀x∈a,me x) (hr:∀b t,r=b::t→¬me b) (hl:(a++r).length≤4000000000) (k:ah→ah→Option R):aW (a++r) k=k a r:=by
 have e:aW (a++r) k=kW (a++r) k:=rfl
 rw[e]
 unfold kW
 have ht:bB (a++r) ([48,49,50,51,52,53,54,55,56,57]:ah)=r:=by
  unfold bB
  have h1:=Mn (fun x=>digS.contains x) a r (fun x hx=>by rw[Yn]; exact aB (ha x hx))
  have h2:=OA (fun x=>digS.contains x) r (fun b t hb=>by rw[Yn]; exact aV (hr b t hb))
  exact h1.trans h2
 rw[ht]
 have hlen:(a++r).length=a.length+r.length:=List.length_append
 have hw:IntKind.i64.wrap (((a++r).length:Int) - (r.length:Int))=(a.length:Int):=by rw[hlen,bw (by omega) (by omega)]; omega
 rw[hw,aS (by rfl),aS (by rw[aB (by omega),aB (by omega)]; rfl),aS (aB (by omega)),List.drop_zero,Int.toNat_natCast,Nat.sub_zero,List.take_left]
theorem parse_ok {R:Type} (neg:Bool) (I F X:ah) (pt:Bool) (ev:Int) (hI:∀x∈I,me x) (hI0:I ≠ []) (hI1:1<I.length→(I.getD 0 0).toNat≠48) (hF:∀x∈F,me x) (hF0:pt=true→F ≠ []) (hF1:pt=false→F = [])
  (hX:(X = []∧ev=0)∨∃b Y,X=b::Y∧(b=101∨b=69)∧∀f:Int→Bool→ah→Option R,bA Y f=f ev true []) (hev : -1000000≤ev∧ev≤1000000)
  (hlen:((if neg then [45]else [])++(I++((if pt then 46::F else [])++X))).length≤400)
  (hsh:(cS (bB (I++F) [48]) [48]).length≤18) (k:dH→Bool→Option R) :
  eL ((if neg then [45]else [])++(I++((if pt then 46::F else [])++X))) k =
   ca (if neg then IntKind.i64.wrap (0 - ft (48::cS (bB (I++F) [48]) [48]))else ft (48::cS (bB (I++F) [48]) [48])) (-(F.length:Int)+ev+(((bB (I++F) [48]).length:Int) - ((cS (bB (I++F) [48]) [48]).length:Int))) k:=by
 generalize hS:(if neg then [45]else [])++(I++((if pt then 46::F else [])++X))=s at *
 have e:eL s k=rC ca bc aW bA s k:=rfl
 rw[e]
 unfold rC
 -- the pieces
 obtain ⟨i0,It,hIe⟩:∃b t,I=b::t:=by cases I with|nil=>exact (hI0 rfl).elim|cons b t=>exact ⟨b,t,rfl⟩
 have hi0:=hI i0 (by rw[hIe]; simp)
 have hXh:∀b t,X=b::t→¬me b∧b.toNat≠46:=by
  intro b t hb
  rcases hX with ⟨rfl,_⟩|⟨c,Y,rfl,hc,_⟩
  ·cases hb
  ·cases hb
   rcases hc with rfl|rfl <;> exact ⟨by unfold me; decide,by decide⟩
 have hs1:gh [45] s=(if neg then 45 else 0,I++((if pt then 46::F else [])++X)):=by
  rw[←hS]
  cases neg with
  | true=>rfl
  | false =>
   rw[hIe]
   have:([45]:ah).contains i0=false:=by
    have:i0≠45:=by rintro rfl; exact absurd hi0.1 (by decide)
    simp[this]
   simp only[Bool.false_eq_true,if_false,List.nil_append,List.cons_append,gh,this]
 have hsl:s.length≤400:=hlen
 have IF:s.length=(if neg then 1 else 0)+(I.length+((if pt then F.length+1 else 0)+X.length)):=by
  rw[←hS]
  cases neg <;> cases pt <;> simp <;> omega
 have hFl:F.length≤400:=by
  cases pt with
  | true=>simp at IF; omega
  | false=>rw[hF1 rfl]; simp
 have hIl:I.length≤400:=by omega
 have hXl:X.length≤400:=by omega
 rw[Ff _ _ (by omega),hs1]
 simp only
 have hPh:∀b t,(if pt then 46::F else [])++X=b::t→¬me b:=by
  intro b t hb
  cases pt with
  | true=>simp at hb; rw[←hb.1]; unfold me; decide
  | false=>exact (hXh b t (by simpa using hb)).1
 have VE:(I++((if pt then 46::F else [])++X)).length≤4000000000:=by
  have:(I++((if pt then 46::F else [])++X)).length=I.length+((if pt then F.length+1 else 0)+X.length):=by cases pt <;> simp <;> omega
  omega
 rw[Q6 I _ hI hPh VE]
 have ju:(I==([]:ah))=false:=by rw[beq_eq_false_iff_ne]; exact hI0
 rw[aV (show ¬(s.length:Int)>400 by omega),cond_false,ju,cond_false]
 have q48:(((I.getD 0 0).toNat:Int)==48)=decide ((I.getD 0 0).toNat=48):=Q2 _ 48
 -- the rest, behind the first test
 have drop1:∀x:Option R,(bif (decide ((I.length:Int)>1))then (cu (decide ((0:Int)<I.length)) (bif (((I.getD 0 0).toNat:Int)==48)then (k ⟨0,0⟩ false)else x))else x)=x:=by
  intro x
  by_cases h:1<I.length
  ·rw[aB (show (I.length:Int)>1 by omega),cond_true,aS (aB (by omega)),q48,aV (hI1 h),cond_false]
  ·rw[aV (show ¬(I.length:Int)>1 by omega),cond_false]
 rw[drop1]
 generalize hA:I++F=all at *
 have DF:all.length≤800:=by rw[←hA,List.length_append]; omega
 have htl:(bB all [48]).length≤all.length:=vH _ _
 have lone:([48]:ah).length=1:=rfl
 have hc:(([48]:ah)++(cS (bB all ([48]:ah)) ([48]:ah)))=48::cS (bB all [48]) [48]:=rfl
 have hbe:((([]:ah)==([]:ah)))=true:=rfl
 have hs2:decide ((48::cS (bB all [48]) [48]:ah).length≤281474976710656)=true:=aB (by simp only[List.length_cons]; omega)
 have w0:IntKind.i64.wrap (((bB all [48]).length:Int) - ((cS (bB all [48]) [48]).length:Int))=((bB all [48]).length:Int) - ((cS (bB all [48]) [48]).length:Int):=bw (by omega) (by omega)
 have q1:decide (1+(cS (bB all [48]) [48]).length≤9223372036854775807)=true:=aB (by omega)
 have q2:decide (((cS (bB all [48]) [48]).length:Int)>18)=false:=aV (by omega)
 have q3:(xC ([48]:ah)&&decide (([48]:ah).length<4294967281))=true:=rfl
 have qn:(((if neg then 45 else 0:Nat):Int) != 0)=neg:=by cases neg <;> rfl
 have sX:gh [101,69] X=match X with | []=>(0, [])|b::Y=>(b.toNat,Y):=by
  rcases hX with ⟨rfl,_⟩|⟨b,Y,rfl,hb,_⟩
  ·rfl
  ·rcases hb with rfl|rfl <;> rfl
 cases pt with
 | false =>
  have hFe:=hF1 rfl
  subst hFe
  rw[List.append_nil]at hA
  subst hA
  have s46:gh [46] X=(0,X):=by
   rcases hX with ⟨rfl,_⟩|⟨b,Y,rfl,hb,_⟩
   ·rfl
   ·rcases hb with rfl|rfl <;> rfl
  simp only[Bool.false_eq_true,if_false,List.nil_append]
  rw[Ff _ _ (by omega),s46]
  have z0:(((0:Nat):Int) != 0)=false:=rfl
  simp only[z0,cond_false]
  rw[Ff _ _ (by omega),sX]
  rcases hX with ⟨rfl,rfl⟩|⟨b,Y,rfl,hb,hE⟩
  ·simp only[z0,cond_false,q3,aS rfl,hbe,Bool.not_true,q2,q1,hc,hs2,Bool.cond_self,w0,qn]
   rw[bw (n:=0+(((bB I [48]).length:Int) - ((cS (bB I [48]) [48]).length:Int))) (by omega) (by omega)]
   have e0 : -((([]:ah).length:Nat):Int)+0=0:=rfl
   rw[e0]
   cases neg <;> rfl
  ·have zb:((b.toNat:Int) != 0)=true:=by rcases hb with rfl|rfl <;> rfl
   simp only[zb,cond_true,hE,Bool.not_true,cond_false,q3,aS rfl,hbe,q2,q1,hc,hs2,Bool.cond_self,w0,qn]
   rw[bw (n:=0+ev) (by omega) (by omega),bw (n:=0+ev+(((bB I [48]).length:Int) - ((cS (bB I [48]) [48]).length:Int))) (by omega) (by omega)]
   have e0 : -((([]:ah).length:Nat):Int)+ev=0+ev:=rfl
   rw[e0]
   cases neg <;> rfl
 | true =>
  have hFe:=hF0 rfl
  simp only[if_true,List.cons_append,List.nil_append]
  have s46:gh [46] (46::(F++X))=(46,F++X):=rfl
  have lFX:(F++X).length=F.length+X.length:=List.length_append
  rw[Ff _ _ (by simp only[List.length_cons]; omega),s46]
  have z46:(((46:Nat):Int) != 0)=true:=rfl
  have z0:(((0:Nat):Int) != 0)=false:=rfl
  simp only[z46,cond_true]
  rw[Q6 F X hF (fun b t hb=>(hXh b t hb).1) (by omega)]
  have hFn:(F==([]:ah))=false:=by rw[beq_eq_false_iff_ne]; exact hFe
  rw[hFn,cond_false,aS (aB (by omega)),hA,bw (n:=0 - (F.length:Int)) (by omega) (by omega)]
  rw[Ff _ _ (by omega),sX]
  rcases hX with ⟨rfl,rfl⟩|⟨b,Y,rfl,hb,hE⟩
  ·simp only[z0,cond_false,q3,aS rfl,hbe,Bool.not_true,q2,q1,hc,hs2,Bool.cond_self,w0,qn]
   rw[bw (n:=0 - (F.length:Int)+(((bB all [48]).length:Int) - ((cS (bB all [48]) [48]).length:Int))) (by omega) (by omega)]
   have e0 : -(F.length:Int)+0=0 - (F.length:Int):=by omega
   rw[e0]
   cases neg <;> rfl
  ·have zb:((b.toNat:Int) != 0)=true:=by rcases hb with rfl|rfl <;> rfl
   simp only[zb,cond_true,hE,Bool.not_true,cond_false,q3,aS rfl,hbe,q2,q1,hc,hs2,Bool.cond_self,w0,qn]
   rw[bw (n:=0 - (F.length:Int)+ev) (by omega) (by omega),bw (n:=0 - (F.length:Int)+ev+(((bB all [48]).length:Int) - ((cS (bB all [48]) [48]).length:Int))) (by omega) (by omega)]
   have e0 : -(F.length:Int)+ev=0 - (F.length:Int)+ev:=by omega
   rw[e0]
   cases neg <;> rfl
theorem Z6:∀(l r:ah) (acc v:Nat),parseUint10 acc l = .ok v→parseUint10 acc (l++r)=parseUint10 v r
 | [],r,acc,v,h=>by
  simp only[parseUint10]at h
  injection h with h
  subst h
  rfl
 | c::l,r,acc,v,h=>by
  simp only[parseUint10,List.cons_append]at h ⊢
  split at h
  ·rename_i h1
   rw[if_pos h1]
   split at h
   ·cases h
   ·rename_i h2
    rw[if_neg h2]
    split at h
    ·cases h
    ·rename_i h3
     rw[if_neg h3]
     exact Z6 l r _ v h
  ·cases h
theorem uint_dec (u:Nat) (hu:u<1000000000000000000):parseUint10 0 (decDigits u) = .ok u:=by
 induction u using Nat.strongRecOn with
 | _ u ih =>
  by_cases h:u<10
  ·rw[decDigits,dif_pos h]
   simp only[parseUint10,iV (48+u) (by omega)]
   rw[if_pos (by omega),if_neg (by omega),if_neg (by omega)]
   congr 1
   omega
  ·rw[decDigits,dif_neg h,Z6 _ _ _ _ (ih (u / 10) (by omega) (by omega))]
   simp only[parseUint10,iV (48+u % 10) (by omega)]
   rw[if_pos (by omega),if_neg (by omega),if_neg (by omega)]
   congr 1
   omega
theorem atoi_dec (u:Nat) (hu:u<1000000000000000000):ft (48::decDigits u)=(u:Int):=by
 have h1:parseMag (48::decDigits u) = .ok u:=by
  unfold parseMag
  rw[if_neg (by simp)]
  have:=uint_dec u hu
  simp only[parseUint10]
  exact this
 have h2:atoiAll (48::decDigits u) = .ok (u:Int):=by
  unfold atoiAll
  simp only
  have e:(if (48:UInt8).toNat=43∨(48:UInt8).toNat=45 then decDigits u else 48::decDigits u)=48::decDigits u:=if_neg (by decide)
  rw[e,h1]
  simp only
  rw[if_neg (by omega),if_neg (fun h=>absurd h.1 (by decide)),if_neg (by decide)]
 unfold ft
 rw[h2]
theorem trimL_z (n:Nat) (r:ah) (hr:∀b t,r=b::t→b≠48):bB (ij n++r) [48]=r:=by
 unfold bB
 rw[Mn _ _ _ (fun x hx=>by have:=List.eq_of_mem_replicate hx; subst this; rfl)]
 exact OA _ _ fun b t hb=>by simp[hr b t hb]
theorem trimR_z (l:ah) (n:Nat) (b:UInt8) (hb:b≠48):cS (l ++ [b]++ij n) [48]=l ++ [b]:=by
 unfold cS
 rw[List.reverse_append,List.reverse_append]
 have e:(ij n).reverse=ij n:=List.reverse_replicate
 rw[e,Mn _ _ _ (fun x hx=>by have:=List.eq_of_mem_replicate hx; subst this; rfl)]
 have:List.dropWhile (fun x=>([48]:ah).contains x) (([b]:ah).reverse++l.reverse) = [b]++l.reverse:=OA _ _ fun c t hc=>by
  have:b=c:=by
   have:=congrArg List.head? hc
   simpa using this
  subst this
  simp[hb]
 rw[this,List.reverse_append,List.reverse_reverse]
 rfl
theorem trims {u:Nat} (hu:u % 10≠0) (a b:Nat):bB (ij a++(decDigits u++ij b)) [48]=decDigits u++ij b∧cS (decDigits u++ij b) [48]=decDigits u:=by
 obtain ⟨x,t,e,hx⟩:=WW u (by omega)
 obtain ⟨l,hl⟩:=dec_last u
 constructor
 ·apply trimL_z
  intro c t' hc
  rw[e]at hc
  have:x=c:=by
   have:=congrArg List.head? hc
   simpa using this
  subst this
  rintro rfl
  exact hx rfl
 ·rw[hl]
  apply trimR_z
  intro h
  have:=congrArg UInt8.toNat h
  rw[iV _ (by omega)]at this
  have e48:(48:UInt8).toNat=48:=rfl
  omega
theorem Q7 (d:dH) (hd:Fm d) (h0:d.aF≠0):∃(I F:ah) (pt:Bool) (a b:Nat),WR d=(if decide (d.aF<0)then [45]else [])++(I++(if pt then 46::F else [])) ∧
  I++F=ij a++(decDigits d.aF.natAbs++ij b)∧I ≠ []∧(1<I.length→(I.getD 0 0).toNat≠48)∧(pt=true→F ≠ [])∧(pt=false→F = [])∧(F.length:Int)=(b:Int) - d.exp∧I.length+F.length≤40∧(∀x∈I,me x)∧(∀x∈F,me x):=by
 have bd:=hd.bounds
 have DF:=dec_all d.aF.natAbs
 have hlen:(decDigits d.aF.natAbs).length≤16:=by rw[decDigits_length]; exact ZY (by omega)
 have N0:1≤(decDigits d.aF.natAbs).length:=by rw[decDigits_length]; exact nDigits_pos _
 obtain ⟨x0,t0,hfirst,hx0⟩:=WW d.aF.natAbs (by omega)
 have hsg:(if d.aF<0 then ([45]:ah)else [])=if decide (d.aF<0)then [45]else []:=by by_cases h:d.aF<0 <;> simp[h]
 unfold WR
 rw[hsg]
 generalize decDigits d.aF.natAbs=L at *
 by_cases he:0≤d.exp
 ·refine ⟨L++ij d.exp.toNat, [],false,0,d.exp.toNat,?_,by simp[ij],?_,fun _ => ?_,by simp,by simp,by simp; omega,?_,?_,by simp⟩
  ·unfold body; rw[if_pos he]; simp
  ·rw[hfirst]; simp
  ·rw[hfirst]; exact hx0
  ·rw[List.length_append,xf,List.length_nil]; omega
  ·intro x hx
   rcases List.mem_append.1 hx with hx|hx
   ·exact DF x hx
   ·have:=List.eq_of_mem_replicate hx
    subst this; unfold me; decide
 ·have hz:∃z:Nat,(max 0 (1 - d.exp - (L.length:Int))).toNat=z:=⟨_,rfl⟩
  obtain ⟨z,hz⟩:=hz
  have tl:(ij z++L).length=z+L.length:=by rw[List.length_append,xf]
  have YI:(((ij z++L).length:Int)+d.exp).toNat=(ij z++L).length - d.exp.natAbs:=by omega
  have h1:d.exp.natAbs+1≤(ij z++L).length:=by omega
  have tdig:∀x∈ij z++L,me x:=by
   intro x hx
   rcases List.mem_append.1 hx with hx|hx
   ·have:=List.eq_of_mem_replicate hx
    subst this; unfold me; decide
   ·exact DF x hx
  have tfirst:z=0→((ij z++L).getD 0 0).toNat≠48:=by
   rintro rfl
   rw[hfirst]
   exact hx0
  refine ⟨(ij z++L).take ((ij z++L).length - d.exp.natAbs),(ij z++L).drop ((ij z++L).length - d.exp.natAbs),true,z,0,?_,?_,?_,?_,fun _ => ?_,(fun h=>by cases h),?_,?_,?_,?_⟩
  ·unfold body
   rw[if_neg he]
   simp only[hz,YI,if_true]
   simp
  ·rw[List.take_append_drop]; simp[ij]
  ·intro e
   have:=congrArg List.length e
   rw[List.length_take,List.length_nil]at this
   omega
  ·intro hI
   rw[List.length_take]at hI
   have e:((ij z++L).take ((ij z++L).length - d.exp.natAbs)).getD 0 0=(ij z++L).getD 0 0:=by
    have:=(GN (s:=(ij z++L).take ((ij z++L).length - d.exp.natAbs)) (t:=(ij z++L).drop ((ij z++L).length - d.exp.natAbs)) (i:=0) (by rw[List.length_take]; omega)).symm
    rw[List.take_append_drop]at this
    exact this
   rw[e]
   exact tfirst (by omega)
  ·intro e
   have:=congrArg List.length e
   rw[List.length_drop,List.length_nil]at this
   omega
  ·rw[List.length_drop]; omega
  ·rw[List.length_take,List.length_drop]; omega
  ·intro x hx; exact tdig x (List.mem_of_mem_take hx)
  ·intro x hx; exact tdig x (List.mem_of_mem_drop hx)
theorem parse_zero {R:Type} (k:dH→Bool→Option R):eL [48] k=k ⟨0,0⟩ true:=by kernel_rfl
theorem UM:WR ⟨0,0⟩ = [48]:=by
 show []++body (decDigits 0) 0 = [48]
 rw[decDigits_one (by omega)]
 rfl
theorem parse_prt {R:Type} {d:dH} (hd:Fm d) (h0:d.aF≠0) (X:ah) (ev:Int) (hX:(X = []∧ev=0)∨∃b Y,X=b::Y∧(b=101∨b=69)∧∀f:Int→Bool→ah→Option R,bA Y f=f ev true [])
  (hev : -1000000≤ev∧ev≤1000000) (hXl:X.length≤100) (k:dH→Bool→Option R):eL (WR d++X) k=ca d.aF (d.exp+ev) k:=by
 have bd:=hd.bounds
 obtain ⟨I,F,pt,a,b,e1,e2,i0,i1,f0,f1,fl,il,iD,fD⟩:=Q7 d hd h0
 obtain ⟨t1,t2⟩:=trims (u:=d.aF.natAbs) (tmod_abs (hd.nz h0)) a b
 have hlen:(decDigits d.aF.natAbs).length≤16:=by rw[decDigits_length]; exact ZY (by omega)
 have key:=parse_ok (R:=R) (decide (d.aF<0)) I F X pt ev iD i0 i1 fD f0 f1 hX hev (by
  cases hd2:decide (d.aF<0) <;> cases pt <;> simp <;> omega) (by rw[e2,t1,t2]; omega) k
 have e3:WR d++X=(if decide (d.aF<0)then [45]else [])++(I++((if pt then 46::F else [])++X)):=by rw[e1]; simp only[List.append_assoc]
 rw[e3,key,e2,t1,t2,atoi_dec _ (by omega)]
 have e4:(if decide (d.aF<0)=true then IntKind.i64.wrap (0 - (d.aF.natAbs:Int))else (d.aF.natAbs:Int))=d.aF:=by
  by_cases h:d.aF<0
  ·rw[if_pos (by rw[aB h]),bw (by omega) (by omega)]; omega
  ·rw[if_neg (by rw[aV h]; simp)]; omega
 have e5 : -(F.length:Int)+ev+(((decDigits d.aF.natAbs++ij b).length:Int) - ((decDigits d.aF.natAbs).length:Int))=d.exp+ev:=by
  rw[List.length_append,xf]
  omega
 rw[e4,e5]
theorem make_same {R:Type} {d:dH} (hd:Fm d) (h0:d.aF≠0) (k:dH→Bool→Option R):ca d.aF d.exp k=k d true:=by
 have bd:=hd.bounds
 obtain ⟨r,hr,hm⟩:=make_any (R:=R) d.aF d.exp (by unfold G3; omega) (by omega) (by omega)
 have e5:d.aF=d.aF*10 ^ 0:=by simp
 rw[e5]at hr
 rw[hm,made_same hd h0 (j:=0) (x:=d.exp) (by omega) hr]
theorem zeros_add (a b:Nat):ij a++ij b=ij (a+b):=by unfold ij; rw[List.replicate_append_replicate]
theorem zeros_snoc (a:Nat):ij a ++ [48]=ij (a+1):=zeros_add a 1
abbrev isD (b:UInt8):Bool:=digS.contains b
theorem isD_ok (b:UInt8):isD b=decide (48≤b.toNat∧b.toNat≤57):=Yn b
abbrev takeD (s:ah):ah:=s.takeWhile isD
abbrev iv (s:ah):ah:=s.dropWhile isD
theorem wQ (s:ah):∀x∈takeD s,me x:=fun x hx=>by
 have h:=List.all_takeWhile (l:=s) (p:=isD)
 have:=List.all_eq_true.1 h x hx
 rw[isD_ok]at this
 exact of_decide_eq_true (p:=48≤x.toNat∧x.toNat≤57) this
theorem Z7 (s:ah):∀b t,iv s=b::t→¬me b:=fun b t h hb=>by
 have h2:isD b=false:=by
  have:=List.head?_dropWhile_not isD s
  have e:s.dropWhile isD=b::t:=h
  rw[e]at this
  simpa using this
 rw[isD_ok,aB (p:=48≤b.toNat∧b.toNat≤57) hb]at h2
 cases h2
theorem Fg (s:ah):(takeD s).length≤s.length:=by
 have:=congrArg List.length (List.takeWhile_append_dropWhile (p:=isD) (l:=s))
 rw[List.length_append]at this
 unfold takeD
 omega
theorem Z8 (s:ah):(iv s).length≤s.length:=vH _ _
theorem OB {R:Type} (s:ah) (hl:s.length≤4000000000) (k:ah→ah→Option R):aW s k=k (takeD s) (iv s):=by
 have e:takeD s++iv s=s:=List.takeWhile_append_dropWhile
 have h:=Q6 (R:=R) (takeD s) (iv s) (wQ s) (Z7 s) (by rw[e]; exact hl) k
 rw[e]at h
 exact h
theorem PZ (g s:ah):(gh g s).2.length≤s.length:=by
 unfold gh
 cases s with
 | nil=>simp
 | cons b t=>simp only; split <;> simp
def jL:ah→Nat→Nat
 | [],v=>v
 | b::s,v=>jL s (10*v+(b.toNat - 48))
theorem UN:∀(a b:ah) (v:Nat),jL (a++b) v=jL b (jL a v)
 | [],_,_=>rfl
 | x::a,b,v=>UN a b _
theorem Yo:∀(s:ah) (v:Nat),v*10 ^ s.length≤jL s v
 | [],v=>by simp[jL]
 | b::s,v=>by
  have:=Yo s (10*v+(b.toNat - 48))
  have h2:10*v*10 ^ s.length≤(10*v+(b.toNat - 48))*10 ^ s.length:=Nat.mul_le_mul_right _ (by omega)
  have e:v*10 ^ (b::s).length=10*v*10 ^ s.length:=by rw[List.length_cons,Nat.pow_succ,Nat.mul_comm 10,Nat.mul_assoc,Nat.mul_comm 10]
  simp only[jL]
  omega
theorem valD_self (s:ah) (v:Nat):v≤jL s v:=Nat.le_trans (Nat.le_mul_of_pos_right _ (Nat.pos_of_ne_zero (by simp))) (Yo s v)
theorem Tc:∀(s:ah) (v:Nat),(∀x∈s,me x)→jL s v<(v+1)*10 ^ s.length
 | [],v,_=>by simp[jL]
 | b::s,v,h=>by
  have hb:=h b (by simp)
  unfold me at hb
  have:=Tc s (10*v+(b.toNat - 48)) fun x hx=>h x (by simp[hx])
  have h2:(10*v+(b.toNat - 48)+1)*10 ^ s.length≤((v+1)*10)*10 ^ s.length:=Nat.mul_le_mul_right _ (by omega)
  have e:(v+1)*10 ^ (b::s).length=((v+1)*10)*10 ^ s.length:=by rw[List.length_cons,Nat.pow_succ,Nat.mul_assoc,Nat.mul_comm 10]
  simp only[jL]
  omega
theorem Z9:∀(D:ah) (acc:Nat),(∀x∈D,me x) →
  (jL D acc<18446744073709551616→parseUint10 acc D = .ok (jL D acc))∧(acc<18446744073709551616→18446744073709551616≤jL D acc→parseUint10 acc D = .range)
 | [],acc,_=>⟨fun _=>rfl,fun h1 h2=>by simp only[jL]at h2; omega⟩
 | b::D,acc,h=>by
  have hb:=h b (by simp)
  unfold me at hb
  obtain ⟨i1,i2⟩:=Z9 D (10*acc+(b.toNat - 48)) fun x hx=>h x (by simp[hx])
  have hs:=valD_self D (10*acc+(b.toNat - 48))
  have e:acc*10+(b.toNat - 48)=10*acc+(b.toNat - 48):=by omega
  simp only[jL,parseUint10]
  rw[if_pos hb,e]
  refine ⟨fun h1 => ?_,fun h1 h2 => ?_⟩
  ·rw[if_neg (by omega),if_neg (by omega)]
   exact i1 h1
  ·by_cases g1:1844674407370955162≤acc
   ·rw[if_pos g1]
   ·rw[if_neg g1]
    by_cases g2:18446744073709551616≤10*acc+(b.toNat - 48)
    ·rw[if_pos g2]
    ·rw[if_neg g2]
     exact i2 (by omega) h2
theorem aac (D:ah) (hD:∀x∈D,me x) (h0:D ≠ []) :
  (jL D 0<9223372036854775808→atoiAll D = .ok (jL D 0:Int))∧(9223372036854775808≤jL D 0→atoiAll D = .range):=by
 obtain ⟨i1,i2⟩:=Z9 D 0 hD
 cases D with
 | nil=>exact (h0 rfl).elim
 | cons b D =>
  have hb:=hD b (by simp)
  unfold me at hb
  have e:(if b.toNat=43∨b.toNat=45 then D else b::D)=b::D:=if_neg (by omega)
  have m:parseMag (b::D)=parseUint10 0 (b::D):=by unfold parseMag; rw[if_neg (by simp)]
  unfold atoiAll
  simp only
  rw[e,m]
  refine ⟨fun h => ?_,fun h => ?_⟩
  ·rw[i1 (by omega)]
   simp only
   rw[if_neg (by omega),if_neg (fun h2=>absurd h2.1 (by omega)),if_neg (by omega)]
  ·by_cases h2:jL (b::D) 0<18446744073709551616
   ·rw[i1 h2]
    simp only
    rw[if_pos ⟨by omega,h⟩]
   ·rw[i2 (by omega) (by omega)]
def Hn (X:ah):Int × Bool × ah :=
 let q:=gh [43,45] X
 let v:Int:=min (jL (takeD q.2) 0:Int) 1000000
 (if q.1=45 then -v else v, !(takeD q.2 == []),iv q.2)
theorem exp_any {R:Type} (X:ah) (hl:X.length≤4000000000) (k:Int→Bool→ah→Option R):bA X k=k (Hn X).1 (Hn X).2.1 (Hn X).2.2:=by
 have e:bA X k=kh bc aW X k:=rfl
 rw[e]
 unfold kh
 have h1:=PZ [43,45] X
 rw[Ff _ _ hl]
 unfold Hn
 simp only
 generalize gh [43,45] X=q at *
 rw[OB _ (by omega)]
 have h2:=Fg q.2
 have hD:=wQ q.2
 generalize takeD q.2=D at *
 generalize iv q.2=r at *
 have q45:((q.1:Int)==45)=decide (q.1=45):=Q2 _ 45
 rw[aS (aB (by omega)),q45]
 by_cases h0:D = []
 ·subst h0
  have a1:wy []=false:=rfl
  have a2:ft []=0:=rfl
  rw[a1,a2]
  simp only[cond_false,jL]
  by_cases hq:q.1=45
  ·rw[aB hq,if_pos hq]; rfl
  ·rw[aV hq,if_neg hq]; rfl
 ·have ju:(D==([]:ah))=false:=by rw[beq_eq_false_iff_ne]; exact h0
  obtain ⟨i1,i2⟩:=aac D hD h0
  rw[ju]
  simp only[Bool.not_false,cond_true]
  by_cases hv:jL D 0<9223372036854775808
  ·have a1:wy D=true:=by unfold wy; rw[i1 hv]
   have a2:ft D=(jL D 0:Int):=by unfold ft; rw[i1 hv]
   rw[a1,a2,cond_true]
   by_cases hb:(jL D 0:Int)>1000000
   ·rw[aB hb,cond_true,Int.min_eq_right (by omega)]
    by_cases hq:q.1=45
    ·rw[aB hq,if_pos hq]; rfl
    ·rw[aV hq,if_neg hq]; rfl
   ·rw[aV hb,cond_false,Int.min_eq_left (by omega),bw (by omega) (by omega)]
    by_cases hq:q.1=45
    ·rw[aB hq,if_pos hq,cond_true]; congr 1; omega
    ·rw[aV hq,if_neg hq,cond_false]
  ·have a1:wy D=false:=by unfold wy; rw[i2 (by omega)]
   rw[a1,cond_false,Int.min_eq_right (by omega)]
   by_cases hq:q.1=45
   ·rw[aB hq,if_pos hq]; rfl
   ·rw[aV hq,if_neg hq]; rfl
theorem UO (a:ah):∀b t,bB a [48]=b::t→b≠48:=fun b t h hb=>by
 have h2:=List.head?_dropWhile_not (([48]:ah).contains ·) a
 have e:a.dropWhile (([48]:ah).contains ·)=b::t:=h
 rw[e]at h2
 subst hb
 exact absurd (show (([48]:ah).contains 48)=false from h2) (by decide)
theorem trimL_sub (a:ah):∀x∈bB a [48],x∈a:=fun x hx=>(List.dropWhile_sublist _).subset hx
theorem RR (a:ah):cS a [48] = []∨∃l b,cS a [48]=l ++ [b]∧b≠48:=by
 unfold cS
 have h2:=List.head?_dropWhile_not (([48]:ah).contains ·) a.reverse
 cases h:a.reverse.dropWhile (([48]:ah).contains ·)with
 | nil=>exact .inl rfl
 | cons b t =>
  rw[h]at h2
  refine .inr ⟨t.reverse,b,by simp,fun hb => ?_⟩
  subst hb
  exact absurd (show (([48]:ah).contains 48)=false from h2) (by decide)
theorem Mo (a:ah):∃n,a=cS a [48]++ij n:=by
 have h:=List.takeWhile_append_dropWhile (p:=(([48]:ah).contains ·)) (l:=a.reverse)
 have h2:=congrArg List.reverse h
 rw[List.reverse_append,List.reverse_reverse]at h2
 refine ⟨(a.reverse.takeWhile (([48]:ah).contains ·)).length,?_⟩
 have hz:(a.reverse.takeWhile (([48]:ah).contains ·)).reverse=ij (a.reverse.takeWhile (([48]:ah).contains ·)).length:=by
  unfold ij
  rw[List.eq_replicate_iff]
  refine ⟨List.length_reverse,fun x hx => ?_⟩
  have h3:=List.all_takeWhile (l:=a.reverse) (p:=(([48]:ah).contains ·))
  have:=List.all_eq_true.1 h3 x (List.mem_reverse.1 hx)
  simpa using this
 rw[←hz]
 exact h2.symm
def Ib (neg:Bool) (all:ah) (x:Int):dH × Bool :=
 if cS (bB all [48]) [48] = []then (⟨0,0⟩,true)
 else Ql (if neg then -(jL (cS (bB all [48]) [48]) 0:Int)else (jL (cS (bB all [48]) [48]) 0:Int)) (x+(((bB all [48]).length:Int) - ((cS (bB all [48]) [48]).length:Int)))
theorem make_min {R:Type} (m x:Int) (k:dH→Bool→Option R):ca m x k=ca m (min x 1000000) k:=by
 have e:∀x,ca m x k=qq bt bF m x k:=fun _=>rfl
 rw[e,e]
 unfold qq
 have:min (min x 1000000) 1000000=min x 1000000:=by omega
 rw[this]
theorem mkD_min (u x:Int):Ql u (min x 1000000)=Ql u x:=by
 unfold Ql
 by_cases h:x≤1000000
 ·rw[Int.min_eq_left h]
 ·rw[if_neg (by omega),if_neg (by omega)]
theorem WX {R:Type} (u x:Int) (hu:Int.tmod u 10≠0) (hb:G3 u) (hx : -9223372036854775808≤x) (k:dH→Bool→Option R):ca u x k=k (Ql u x).1 (Ql u x).2:=by
 rw[make_min,←mkD_min u x]
 have:=make_ok (R:=R) u 0 (min x 1000000) hu (by simpa using hb) (by omega) (by omega) k
 simpa using this
theorem LX (all:ah) (h:∀x∈all,me x) (h0:cS (bB all [48]) [48] ≠ []) :
  (∀x∈cS (bB all [48]) [48],me x)∧jL (cS (bB all [48]) [48]) 0 % 10≠0∧10 ^ ((cS (bB all [48]) [48]).length - 1)≤jL (cS (bB all [48]) [48]) 0:=by
 obtain ⟨n,hn⟩:=Mo (bB all [48])
 have hd:∀x∈cS (bB all [48]) [48],me x:=fun x hx=>h x (trimL_sub _ _ (by rw[hn]; simp[hx]))
 refine ⟨hd,?_,?_⟩
 ·rcases RR (bB all [48])with e|⟨l,b,e,hb⟩
  ·exact (h0 e).elim
  ·have hbd:=hd b (by rw[e]; simp)
   rw[e,UN]
   simp only[jL]
   unfold me at hbd
   have:b.toNat≠48:=fun h=>hb (UInt8.toNat_inj.1 h)
   omega
 ·cases e:cS (bB all [48]) [48]with
  | nil=>exact (h0 e).elim
  | cons b t =>
   have hb:b≠48:=UO all b (t++ij n) (by rw[hn,e]; rfl)
   have hbd:=hd b (by rw[e]; simp)
   unfold me at hbd
   have Yc:b.toNat≠48:=fun h=>hb (UInt8.toNat_inj.1 h)
   have:=Yo t (10*0+(b.toNat - 48))
   have h2:1*10 ^ t.length≤(10*0+(b.toNat - 48))*10 ^ t.length:=Nat.mul_le_mul_right _ (by omega)
   simp only[jL,List.length_cons,Nat.add_sub_cancel]
   omega
theorem mkD_far {u:Int} (x:Int) (h:1000000000000000<u.natAbs):Ql u x=(⟨0,0⟩,false):=by
 unfold Ql
 rw[if_neg (by omega)]
theorem fin_ok {R:Type} (y2:Int) (sn:ah) (YJ:Int) (z20:ah) (h:∀x∈sn,me x) (hl:sn.length≤1000) (hx : -2000000≤YJ∧YJ≤2000000) (k0:dH→Bool→Option R) :
  (cu (xC ([48]:ah)&&decide (([48]:ah).length<4294967281)) (cu (xC ([48]:ah)&&decide (([48]:ah).length<4294967281)) (bif (!(z20==([]:ah)))then (k0 (⟨0,0⟩:dH) false)else (bif (decide (((cS (bB sn ([48]:ah)) ([48]:ah)).length:Int)>(18:Int)))then (k0 (⟨0,0⟩:dH) false)else (cu (decide (1+(cS (bB sn ([48]:ah)) ([48]:ah)).length≤9223372036854775807)) (cu (decide ((([48]:ah)++(cS (bB sn ([48]:ah)) ([48]:ah))).length≤281474976710656)) (bif wy (([48]:ah)++(cS (bB sn ([48]:ah)) ([48]:ah)))then (bif (y2 != 0)then (ca (IntKind.i64.wrap (0 - (ft (([48]:ah)++(cS (bB sn ([48]:ah)) ([48]:ah)))))) (IntKind.i64.wrap (YJ+(IntKind.i64.wrap (((bB sn ([48]:ah)).length:Int) - ((cS (bB sn ([48]:ah)) ([48]:ah)).length:Int))))) (fun Qk Sh=>k0 Qk Sh))else (ca (ft (([48]:ah)++(cS (bB sn ([48]:ah)) ([48]:ah)))) (IntKind.i64.wrap (YJ+(IntKind.i64.wrap (((bB sn ([48]:ah)).length:Int) - ((cS (bB sn ([48]:ah)) ([48]:ah)).length:Int))))) (fun D5 I8=>k0 D5 I8)))else (bif (y2 != 0)then (ca (IntKind.i64.wrap (0 - (ft (([48]:ah)++(cS (bB sn ([48]:ah)) ([48]:ah)))))) (IntKind.i64.wrap (YJ+(IntKind.i64.wrap (((bB sn ([48]:ah)).length:Int) - ((cS (bB sn ([48]:ah)) ([48]:ah)).length:Int))))) (fun Qk Sh=>k0 Qk Sh))else (ca (ft (([48]:ah)++(cS (bB sn ([48]:ah)) ([48]:ah)))) (IntKind.i64.wrap (YJ+(IntKind.i64.wrap (((bB sn ([48]:ah)).length:Int) - ((cS (bB sn ([48]:ah)) ([48]:ah)).length:Int))))) (fun D5 I8=>k0 D5 I8)))))))))) =
  if z20 = []then k0 (Ib (y2 != 0) sn YJ).1 (Ib (y2 != 0) sn YJ).2 else k0 ⟨0,0⟩ false:=by
 have q3:(xC ([48]:ah)&&decide (([48]:ah).length<4294967281))=true:=rfl
 have htl:(bB sn [48]).length≤sn.length:=vH _ _
 obtain ⟨n,hn⟩:=Mo (bB sn [48])
 have htr:(bB sn [48]).length=(cS (bB sn [48]) [48]).length+n:=by have:=congrArg List.length hn; rw[List.length_append,xf]at this; exact this
 rw[q3,aS rfl,aS rfl]
 by_cases hz:z20 = []
 ·subst hz
  have hbe:((([]:ah)==([]:ah)))=true:=rfl
  rw[hbe,if_pos rfl]
  simp only[Bool.not_true,cond_false]
  have w0:IntKind.i64.wrap (((bB sn [48]).length:Int) - ((cS (bB sn [48]) [48]).length:Int))=((bB sn [48]).length:Int) - ((cS (bB sn [48]) [48]).length:Int):=bw (by omega) (by omega)
  have w1:IntKind.i64.wrap (YJ+(((bB sn [48]).length:Int) - ((cS (bB sn [48]) [48]).length:Int)))=YJ+(((bB sn [48]).length:Int) - ((cS (bB sn [48]) [48]).length:Int)):=bw (by omega) (by omega)
  rw[w0,w1,aS (aB (by omega)),aS (aB (by simp only[List.length_append,List.length_cons,List.length_nil]; omega)),Bool.cond_self]
  unfold Ib
  have hc:(([48]:ah)++(cS (bB sn ([48]:ah)) ([48]:ah)))=48::cS (bB sn [48]) [48]:=rfl
  rw[hc]
  by_cases h0:cS (bB sn [48]) [48] = []
  ·rw[h0,if_pos rfl]
   have a0:ft (48::([]:ah))=0:=by decide +kernel
   have a1:decide (((([]:ah)).length:Int)>18)=false:=rfl
   have a2:IntKind.i64.wrap (0 - 0)=0:=by decide
   rw[a0,a1,cond_false,a2,WQ,Bool.cond_self]
  ·rw[if_neg h0]
   obtain ⟨f1,f2,f3⟩:=LX sn h h0
   have hX : -3000000≤YJ+(((bB sn [48]).length:Int) - ((cS (bB sn [48]) [48]).length:Int)):=by omega
   generalize cS (bB sn [48]) [48]=sh at *
   generalize (YJ+(((bB sn [48]).length:Int) - (sh.length:Int)))=X at *
   have N0:1≤sh.length:=by cases sh with|nil=>exact (h0 rfl).elim|cons _ _=>simp
   by_cases h18:sh.length≤18
   ·rw[aV (show ¬(sh.length:Int)>18 by omega),cond_false]
    have kY:=Tc sh 0 f1
    have hp:(10:Nat) ^ sh.length≤10 ^ 18:=Nat.pow_le_pow_right (by omega) h18
    have e18:(10:Nat) ^ 18=1000000000000000000:=rfl
    have v48:jL (48::sh) 0=jL sh 0:=rfl
    have ha:ft (48::sh)=(jL sh 0:Int):=by
     obtain ⟨i1,_⟩:=aac (48::sh) (fun x hx=>by rcases List.mem_cons.1 hx with rfl|hx; (unfold me; decide); exact f1 x hx) (by simp)
     unfold ft
     rw[i1 (by rw[v48]; omega),v48]
    rw[ha]
    have hm:Int.tmod (jL sh 0:Int) 10≠0:=by rw[Int.tmod_eq_emod_of_nonneg (by omega)]; omega
    cases hy:(y2 != 0)with
    | true =>
     rw[cond_true,if_pos rfl,bw (by omega) (by omega)]
     have e0:(0 - (jL sh 0:Int)) = -(jL sh 0:Int):=by omega
     rw[e0]
     exact WX _ _ (tmod_neg hm) (by unfold G3; omega) (by omega) _
    | false =>
     rw[cond_false,if_neg (by simp)]
     exact WX _ _ hm (by unfold G3; omega) (by omega) _
   ·rw[aB (show (sh.length:Int)>18 by omega),cond_true]
    have hp:(10:Nat) ^ 18≤10 ^ (sh.length - 1):=Nat.pow_le_pow_right (by omega) (by omega)
    have e18:(10:Nat) ^ 18=1000000000000000000:=rfl
    rw[mkD_far _ (by split <;> omega)]
 ·have hbe:(z20==([]:ah))=false:=by rw[beq_eq_false_iff_ne]; exact hz
  rw[hbe,if_neg hz]
  rfl
def Yp:dH × Bool:=(⟨0,0⟩,false)
def tailD (neg:Bool) (all:ah) (x:Int) (X:ah):dH × Bool :=
 if (gh [101,69] X).1=0 then (if (gh [101,69] X).2 = []then Ib neg all x else Yp)
 else if (Hn (gh [101,69] X).2).2.1=false then Yp
 else if (Hn (gh [101,69] X).2).2.2 = []then Ib neg all (x+(Hn (gh [101,69] X).2).1)else Yp
def qY (s:ah):dH × Bool :=
 let q:=gh [45] s
 let I:=takeD q.2
 let r:=iv q.2
 if 400<s.length then Yp else if I = []then Yp else if 1<I.length∧(I.getD 0 0).toNat=48 then Yp
 else if (gh [46] r).1=0 then tailD (q.1 != 0) I 0 (gh [46] r).2
 else if takeD (gh [46] r).2 = []then Yp
 else tailD (q.1 != 0) (I++takeD (gh [46] r).2) (-((takeD (gh [46] r).2).length:Int)) (iv (gh [46] r).2)
theorem expP_lim (X:ah) : -1000000≤(Hn X).1∧(Hn X).1≤1000000:=by
 unfold Hn
 simp only
 split <;> omega
theorem neN (n:Nat):(((n:Nat):Int) != 0)=(n != 0):=by
 cases n with
 | zero=>rfl
 | succ n=>rw[bne_iff_ne.2 (by omega),bne_iff_ne.2 (by omega)]
theorem aad {R:Type} (q:Nat) (all:ah) (x:Int) (X:ah) (ha:∀c∈all,me c) (hl:all.length≤900) (h1 : -1000≤x) (h2:x≤0) (hX:X.length≤1000) (k:dH→Bool→Option R) :
  bc ([101,69]:ah) X (fun KZ DM=>bif (KZ != 0)then (bA DM (fun HF Iv Iu=>bif (!Iv)then (k (⟨0,0⟩:dH) false)else (cu (xC ([48]:ah)&&decide (([48]:ah).length<4294967281)) (cu (xC ([48]:ah)&&decide (([48]:ah).length<4294967281)) (bif (!(Iu==([]:ah)))then (k (⟨0,0⟩:dH) false)else (bif (decide (((cS (bB all ([48]:ah)) ([48]:ah)).length:Int)>(18:Int)))then (k (⟨0,0⟩:dH) false)else (cu (decide (1+(cS (bB all ([48]:ah)) ([48]:ah)).length≤9223372036854775807)) (cu (decide ((([48]:ah)++(cS (bB all ([48]:ah)) ([48]:ah))).length≤281474976710656)) (bif wy (([48]:ah)++(cS (bB all ([48]:ah)) ([48]:ah)))then (bif ((q:Int) != 0)then (ca (IntKind.i64.wrap (0 - (ft (([48]:ah)++(cS (bB all ([48]:ah)) ([48]:ah)))))) (IntKind.i64.wrap ((IntKind.i64.wrap (x+HF))+(IntKind.i64.wrap (((bB all ([48]:ah)).length:Int) - ((cS (bB all ([48]:ah)) ([48]:ah)).length:Int))))) (fun Qk Sh=>k Qk Sh))else (ca (ft (([48]:ah)++(cS (bB all ([48]:ah)) ([48]:ah)))) (IntKind.i64.wrap ((IntKind.i64.wrap (x+HF))+(IntKind.i64.wrap (((bB all ([48]:ah)).length:Int) - ((cS (bB all ([48]:ah)) ([48]:ah)).length:Int))))) (fun D5 I8=>k D5 I8)))else (bif ((q:Int) != 0)then (ca (IntKind.i64.wrap (0 - (ft (([48]:ah)++(cS (bB all ([48]:ah)) ([48]:ah)))))) (IntKind.i64.wrap ((IntKind.i64.wrap (x+HF))+(IntKind.i64.wrap (((bB all ([48]:ah)).length:Int) - ((cS (bB all ([48]:ah)) ([48]:ah)).length:Int))))) (fun Qk Sh=>k Qk Sh))else (ca (ft (([48]:ah)++(cS (bB all ([48]:ah)) ([48]:ah)))) (IntKind.i64.wrap ((IntKind.i64.wrap (x+HF))+(IntKind.i64.wrap (((bB all ([48]:ah)).length:Int) - ((cS (bB all ([48]:ah)) ([48]:ah)).length:Int))))) (fun D5 I8=>k D5 I8))))))))))))else (cu (xC ([48]:ah)&&decide (([48]:ah).length<4294967281)) (cu (xC ([48]:ah)&&decide (([48]:ah).length<4294967281)) (bif (!(DM==([]:ah)))then (k (⟨0,0⟩:dH) false)else (bif (decide (((cS (bB all ([48]:ah)) ([48]:ah)).length:Int)>(18:Int)))then (k (⟨0,0⟩:dH) false)else (cu (decide (1+(cS (bB all ([48]:ah)) ([48]:ah)).length≤9223372036854775807)) (cu (decide ((([48]:ah)++(cS (bB all ([48]:ah)) ([48]:ah))).length≤281474976710656)) (bif wy (([48]:ah)++(cS (bB all ([48]:ah)) ([48]:ah)))then (bif ((q:Int) != 0)then (ca (IntKind.i64.wrap (0 - (ft (([48]:ah)++(cS (bB all ([48]:ah)) ([48]:ah)))))) (IntKind.i64.wrap (x+(IntKind.i64.wrap (((bB all ([48]:ah)).length:Int) - ((cS (bB all ([48]:ah)) ([48]:ah)).length:Int))))) (fun Qk Sh=>k Qk Sh))else (ca (ft (([48]:ah)++(cS (bB all ([48]:ah)) ([48]:ah)))) (IntKind.i64.wrap (x+(IntKind.i64.wrap (((bB all ([48]:ah)).length:Int) - ((cS (bB all ([48]:ah)) ([48]:ah)).length:Int))))) (fun D5 I8=>k D5 I8)))else (bif ((q:Int) != 0)then (ca (IntKind.i64.wrap (0 - (ft (([48]:ah)++(cS (bB all ([48]:ah)) ([48]:ah)))))) (IntKind.i64.wrap (x+(IntKind.i64.wrap (((bB all ([48]:ah)).length:Int) - ((cS (bB all ([48]:ah)) ([48]:ah)).length:Int))))) (fun Qk Sh=>k Qk Sh))else (ca (ft (([48]:ah)++(cS (bB all ([48]:ah)) ([48]:ah)))) (IntKind.i64.wrap (x+(IntKind.i64.wrap (((bB all ([48]:ah)).length:Int) - ((cS (bB all ([48]:ah)) ([48]:ah)).length:Int))))) (fun D5 I8=>k D5 I8)))))))))))=k (tailD (q != 0) all x X).1 (tailD (q != 0) all x X).2:=by
 rw[Ff _ _ (by omega)]
 unfold tailD
 have l5:=PZ [101,69] X
 generalize gh [101,69] X=g at *
 rw[neN]
 by_cases hg:g.1=0
 ·rw[if_pos hg,hg]
  simp only[bne_self_eq_false,cond_false]
  rw[fin_ok _ _ _ _ ha (by omega) (by omega),neN]
  split <;> rfl
 ·rw[if_neg hg,bne_iff_ne.2 hg,cond_true,exp_any _ (by omega)]
  have hlim:=expP_lim g.2
  generalize Hn g.2=z at *
  rw[bw (n:=x+z.1) (by omega) (by omega)]
  cases hz:z.2.1 with
  | false=>rfl
  | true =>
   rw[Bool.not_true,cond_false,fin_ok _ _ _ _ ha (by omega) (by omega),neN,if_neg (show ¬(true=false) by simp)]
   split <;> rfl
theorem WY {R:Type} (s:ah) (hs:s.length≤4000000000) (k:dH→Bool→Option R):eL s k=k (qY s).1 (qY s).2:=by
 have e:eL s k=rC ca bc aW bA s k:=rfl
 rw[e]
 unfold rC
 have l1:=PZ [45] s
 rw[Ff _ _ hs]
 unfold qY
 simp only
 generalize gh [45] s=q at *
 rw[OB _ (by omega)]
 have l2:=Fg q.2
 have l3:=Z8 q.2
 have dI:=wQ q.2
 generalize takeD q.2=I at *
 generalize iv q.2=r at *
 by_cases h400:400<s.length
 ·rw[aB (show (s.length:Int)>400 by omega),cond_true,if_pos h400]
  rfl
 rw[aV (show ¬(s.length:Int)>400 by omega),cond_false,if_neg h400]
 by_cases hI:I = []
 ·subst hI
  rw[if_pos rfl]
  rfl
 have ju:(I==([]:ah))=false:=by rw[beq_eq_false_iff_ne]; exact hI
 rw[ju,cond_false,if_neg hI]
 have N0:1≤I.length:=by cases I with|nil=>exact (hI rfl).elim|cons _ _=>simp
 have q48:(((I.getD 0 0).toNat:Int)==48)=decide ((I.getD 0 0).toNat=48):=Q2 _ 48
 rw[aS (aB (show (0:Int)<I.length by omega)),q48]
 by_cases Yc:1<I.length∧(I.getD 0 0).toNat=48
 ·rw[if_pos Yc,aB (show (I.length:Int)>1 by omega),aB Yc.2]
  rfl
 rw[if_neg Yc]
 have cut:∀x:Option R,(bif decide ((I.length:Int)>1)then (bif decide ((I.getD 0 0).toNat=48)then k ⟨0,0⟩ false else x)else x)=x:=fun x=>by
  by_cases h1:1<I.length
  ·rw[aB (show (I.length:Int)>1 by omega),aV (fun h=>Yc ⟨h1,h⟩)]; rfl
  ·rw[aV (show ¬(I.length:Int)>1 by omega)]; rfl
 rw[cut]
 rw[Ff _ _ (by omega)]
 have l4:=PZ [46] r
 generalize gh [46] r=p at *
 rw[neN]
 by_cases hp:p.1=0
 ·rw[if_pos hp,hp]
  simp only[bne_self_eq_false,cond_false]
  exact aad q.1 I 0 p.2 dI (by omega) (by omega) (by omega) (by omega) k
 ·rw[if_neg hp,bne_iff_ne.2 hp,cond_true,OB _ (by omega)]
  have l5:=Fg p.2
  have l6:=Z8 p.2
  have dF:=wQ p.2
  generalize takeD p.2=F at *
  generalize iv p.2=Y at *
  by_cases hF:F = []
  ·subst hF
   rw[if_pos rfl]
   rfl
  have ju:(F==([]:ah))=false:=by rw[beq_eq_false_iff_ne]; exact hF
  rw[ju,cond_false,if_neg hF,aS (aB (by omega)),bw (n:=0 - (F.length:Int)) (by omega) (by omega)]
  have e0:(0:Int) - (F.length:Int) = -(F.length:Int):=by omega
  rw[e0]
  exact aad q.1 (I++F) (-(F.length:Int)) Y (fun c hc=>(List.mem_append.1 hc).elim (dI c) (dF c)) (by rw[List.length_append]; omega) (by omega) (by omega) (by omega) k
theorem longP_sfx {s r:ah} {c:Nat} (h:LA s=some (c,r)):r <:+ s:=by
 unfold LA at h
 split at h
 ·cases h
 ·rename_i v r1 hu
  obtain ⟨_,_,hr⟩:=Bo hu
  have s1:r1 <:+ s:=by rw[hr]; exact List.drop_suffix _ _
  split at h
  ·cases h; exact s1
  ·split at h
   ·cases h
   ·split at h
    ·split at h
     ·cases h
     ·rename_i w r2 hu2
      obtain ⟨_,_,hr2⟩:=Bo hu2
      split at h
      ·simp only[Option.some.injEq,Prod.mk.injEq]at h
       obtain ⟨_,rfl⟩:=h
       rw[hr2]
       exact ((List.drop_suffix _ _).trans (List.drop_suffix _ _)).trans s1
      ·cases h
    ·cases h
theorem escP_sfx {s r:ah} {c:Nat} (h:UE s=some (c,r)):r <:+ s:=by
 cases s with
 | nil=>cases h
 | cons b t =>
  have st:t <:+ b::t:=List.suffix_cons b t
  simp only[UE]at h
  split at h
  ·cases h; exact st
  split at h
  ·cases h; exact st
  split at h
  ·cases h; exact st
  split at h
  ·cases h; exact st
  split at h
  ·cases h; exact st
  split at h
  ·cases h; exact st
  split at h
  ·exact (longP_sfx h).trans st
  ·cases h
theorem plainP_sfx {s r:ah} {c:Nat} (h:yi s=some (c,r)):r <:+ s:=by
 unfold yi at h
 split at h
 ·cases h
 split at h
 ·cases h
 split at h
 ·cases h
 simp only[Option.some.injEq,Prod.mk.injEq]at h
 rw[←h.2]
 exact List.drop_suffix _ _
theorem stepU_sfx {s r:ah} {c:Nat} (h:Ny s=some (c,r)):r <:+ s:=by
 unfold Ny at h
 split at h
 ·exact (escP_sfx h).trans (List.drop_suffix _ _)
 ·exact plainP_sfx h
theorem uq_sfx:∀(n:Nat) (s o o' r:ah),uq n s o=some (o',r)→r <:+ s∧r.length<s.length∧∃rs:List Nat,(∀c∈rs,vr c)∧o'=o++eD rs
 | 0,_,_,_,_,h=>by cases h
 | n+1,s,o,o',r,h=>by
  simp only[uq]at h
  split at h
  ·rename_i J4
   simp only[Option.some.injEq,Prod.mk.injEq]at h
   obtain ⟨rfl,rfl⟩:=h
   refine ⟨List.drop_suffix _ _,?_, [],by simp,by simp[eD]⟩
   cases s with
   | nil=>cases J4
   | cons b t=>simp
  ·split at h
   ·cases h
   ·rename_i c r1 hs
    obtain ⟨h1,h2,rs,h3,h4⟩:=uq_sfx n r1 (o++enc c) o' r h
    obtain ⟨hv,hl⟩:=UG hs
    refine ⟨h1.trans (stepU_sfx hs),by omega,c::rs,fun x hx => ?_,?_⟩
    ·rcases List.mem_cons.1 hx with rfl|hx
     ·exact hv
     ·exact h3 x hx
    ·rw[h4]; simp[eD]
theorem Yq {s o r:ah} (h:Z4 s=some (o,r)):r <:+ s∧r.length+1<s.length∧∃rs:List Nat,(∀c∈rs,vr c)∧o=eD rs:=by
 unfold Z4 at h
 split at h
 ·rename_i J4
  obtain ⟨h1,h2,rs,h3,h4⟩:=uq_sfx _ _ _ _ _ h
  refine ⟨h1.trans (List.drop_suffix _ _),?_,rs,h3,by simpa using h4⟩
  rw[List.length_drop]at h2
  omega
 ·cases h
theorem aae {s r:ah} (h:r <:+ s):r=s.drop (s.length - r.length):=by
 obtain ⟨t,rfl⟩:=h
 rw[List.length_append,Nat.add_sub_cancel,List.drop_left]
def numS:ah := [48,49,50,51,52,53,54,55,56,57,43,45,46,101,69]
def letS:ah := [97,98,99,100,101,102,103,104,105,106,107,108,109,110,111,112,113,114,115,116,117,118,119,120,121,122]
def blaS:ah := [32,9,10,13]
def sigS:ah := [123,125,91,93,44,58]
def sD (b:UInt8):Bool:=numS.contains b
def pr (b:UInt8):Bool:=letS.contains b
def qJ (b:UInt8):Bool:=blaS.contains b
def Ic (b:UInt8):Bool:=sigS.contains b
def AG:ah := [116,114,117,101]
def o4:ah := [102,97,108,115,101]
def va:ah := [110,117,108,108]
def tokS (s:ah):Option (Token × ah) :=
 match s with
 | []=>none
 | c::t =>
  if c.toNat=45∨(48≤c.toNat∧c.toNat≤57)then
   (if (qY (s.takeWhile sD)).2 then some (⟨3,s.takeWhile sD,(qY (s.takeWhile sD)).1,0⟩,s.dropWhile sD)else none)
  else if c.toNat=34 then (match Z4 s with|some (o,r)=>some (⟨2,o,⟨0,0⟩,0⟩,r)|none=>none)
  else if Ic c then some (⟨1, [c],⟨0,0⟩,0⟩,t)
  else if s.takeWhile pr=AG∨s.takeWhile pr=o4∨s.takeWhile pr=va then some (⟨4,s.takeWhile pr,⟨0,0⟩,0⟩,s.dropWhile pr)
  else none
theorem tw_nil {p:UInt8→Bool} {c:UInt8} {t:ah} (h:p c=true):((c::t).dropWhile p).length<(c::t:ah).length:=by
 rw[List.dropWhile_cons,if_pos h]
 have:=vH p t
 simp only[List.length_cons]
 omega
theorem tokS_sfx {s r:ah} {t:Token} (h:tokS s=some (t,r)):r <:+ s∧r.length<s.length:=by
 cases s with
 | nil=>cases h
 | cons c u =>
  simp only[tokS]at h
  split at h
  ·rename_i hc
   split at h
   ·simp only[Option.some.injEq,Prod.mk.injEq]at h
    rw[←h.2]
    refine ⟨List.dropWhile_suffix _,tw_nil ?_⟩
    have all:∀n:Fin 256,(n.val=45∨(48≤n.val∧n.val≤57))→sD (UInt8.ofNat n.val)=true:=by decide +kernel
    have:=all ⟨c.toNat,UInt8.toNat_lt c⟩ hc
    simpa using this
   ·cases h
  ·split at h
   ·split at h
    ·rename_i o q hq
     simp only[Option.some.injEq,Prod.mk.injEq]at h
     obtain ⟨_,rfl⟩:=h
     obtain ⟨h1,h2,_⟩:=Yq hq
     exact ⟨h1,by omega⟩
    ·cases h
   ·split at h
    ·simp only[Option.some.injEq,Prod.mk.injEq]at h
     rw[←h.2]
     exact ⟨List.suffix_cons _ _,by simp⟩
    ·split at h
     ·rename_i hw
      simp only[Option.some.injEq,Prod.mk.injEq]at h
      rw[←h.2]
      refine ⟨List.dropWhile_suffix _,tw_nil ?_⟩
      cases hl:pr c with
      | true=>rfl
      | false =>
       have e:(c::u).takeWhile pr = []:=by rw[List.takeWhile_cons,hl]; rfl
       rw[e]at hw
       rcases hw with hw|hw|hw <;> cases hw
     ·cases h
def Yr (t:Token) (n:Int):Token:=⟨t.kind,t.text,t.num,n⟩
def r4:Nat→Nat→ah→List Token→List Token × Int × Int
 | 0,_,_,_=>([],0,0)
 | n+1,p,s,out =>
  if s.dropWhile qJ = []then (out ++ [⟨5, [],⟨0,0⟩,((p+(s.takeWhile qJ).length:Nat):Int)⟩],0,0)
  else match tokS (s.dropWhile qJ)with
   | none=>([],30,((p+(s.takeWhile qJ).length:Nat):Int))
   | some (t,r)=>r4 n (p+(s.length - r.length)) r (out ++ [Yr t ((p+(s.takeWhile qJ).length:Nat):Int)])
def nH (s:ah):List Token × Int × Int:=if 20000<s.length then ([],30,0)else r4 (s.length+1) 0 s []
theorem Jv:∀(n m p:Nat) (s:ah) (out:List Token),s.length<n→s.length<m→r4 n p s out=r4 m p s out
 | 0,_,_,_,_,h,_=>by omega
 | _,0,_,_,_,_,h=>by omega
 | n+1,m+1,p,s,out,h1,h2=>by
  simp only[r4]
  split
  ·rfl
  ·split
   ·rfl
   ·rename_i t r hr
    have h3:=(tokS_sfx hr).2
    have h4:=vH qJ s
    exact Jv n m _ r _ (by omega) (by omega)
abbrev vb:=ah × ah × Token
def DW:List vb→ah→ah
 | [],z=>z
 | x::l,z=>x.1++(x.2.1++DW l z)
def okW:List vb→ah→Prop
 | [],_=>True
 | x::l,z=>(∀b∈x.1,qJ b=true)∧(∃c u,x.2.1=c::u∧qJ c=false)∧tokS (x.2.1++DW l z)=some (x.2.2,DW l z)∧okW l z
def tokW:Nat→List vb→List Token
 | _, [] => []
 | p,x::l=>Yr x.2.2 ((p+x.1.length:Nat):Int)::tokW (p+x.1.length+x.2.1.length) l
def NF (r:ah):Prop:=r = []∨∃b u,r=b::u∧sD b=false∧pr b=false
def Word (w:ah) (t:Token):Prop:=(∃c u,w=c::u∧qJ c=false)∧∀r,NF r→tokS (w++r)=some (t,r)
theorem Ys {p:UInt8→Bool}:∀(w r:ah),(∀b∈w,p b=true)→(r = []∨∃b u,r=b::u∧p b=false)→(w++r).takeWhile p=w∧(w++r).dropWhile p=r
 | [],r,_,h=>by
  rcases h with rfl|⟨b,u,rfl,hb⟩
  ·exact ⟨rfl,rfl⟩
  ·exact ⟨by rw[List.nil_append,List.takeWhile_cons,hb]; rfl,by rw[List.nil_append,List.dropWhile_cons,hb]; rfl⟩
 | b::w,r,hw,h=>by
  have hb:=hw b (by simp)
  obtain ⟨h1,h2⟩:=Ys w r (fun x hx=>hw x (by simp[hx])) h
  exact ⟨by rw[List.cons_append,List.takeWhile_cons,hb,if_pos rfl,h1],by rw[List.cons_append,List.dropWhile_cons,hb,if_pos rfl,h2]⟩
theorem stop_num {r:ah} (h:NF r):r = []∨∃b u,r=b::u∧sD b=false:=h.imp id fun ⟨b,u,e,h1,_⟩=>⟨b,u,e,h1⟩
theorem stop_let {r:ah} (h:NF r):r = []∨∃b u,r=b::u∧pr b=false:=h.imp id fun ⟨b,u,e,_,h1⟩=>⟨b,u,e,h1⟩
theorem WZ (c:UInt8) (h:Ic c=true):Word [c] ⟨1, [c],⟨0,0⟩,0⟩:=by
 have all:∀n:Fin 256,Ic (UInt8.ofNat n.val)=true→qJ (UInt8.ofNat n.val)=false∧¬(n.val=45∨(48≤n.val∧n.val≤57))∧¬n.val=34:=by decide +kernel
 obtain ⟨h1,h2,h3⟩:=all ⟨c.toNat,UInt8.toNat_lt c⟩ (by simpa using h)
 refine ⟨⟨c, [],rfl,by simpa using h1⟩,fun r _ => ?_⟩
 show tokS (c::r)=_
 simp only[tokS]
 rw[if_neg h2,if_neg h3,if_pos h]
theorem FF {w:ah} (h:w=AG∨w=o4∨w=va):Word w ⟨4,w,⟨0,0⟩,0⟩:=by
 have hl:∀b∈w,pr b=true:=by rcases h with rfl|rfl|rfl <;> decide
 have hc:∃c u,w=c::u∧qJ c=false∧¬(c.toNat=45∨(48≤c.toNat∧c.toNat≤57))∧¬c.toNat=34∧Ic c=false:=by
  rcases h with rfl|rfl|rfl <;> exact ⟨_,_,rfl,by decide,by decide,by decide,by decide⟩
 obtain ⟨c,u,rfl,h1,h2,h3,h4⟩:=hc
 refine ⟨⟨c,u,rfl,h1⟩,fun r hr => ?_⟩
 obtain ⟨t1,t2⟩:=Ys (c::u) r hl (stop_let hr)
 show tokS (c::(u++r))=_
 have e:(c::(u++r):ah)=(c::u)++r:=rfl
 simp only[tokS]
 rw[if_neg h2,if_neg h3,h4,if_neg (by simp),e,t1,t2,if_pos h]
theorem word_text {rs:List Nat} (hr:∀c∈rs,vr c):Word (qt rs) ⟨2,eD rs,⟨0,0⟩,0⟩:=by
 have e:qt rs=34::(Vv rs ++ [34]):=by unfold qt; simp
 refine ⟨⟨34,_,e,by decide⟩,fun r _ => ?_⟩
 have hu:=uqS_qt rs hr r
 have e2:qt rs++r=34::(Vv rs ++ [34]++r):=by rw[e]; rfl
 rw[e2]at hu ⊢
 simp only[tokS]
 rw[if_neg (by decide),if_pos (by decide),hu]
theorem parseS_prt {d:dH} (hd:Fm d):qY (WR d)=(d,true):=by
 have key:∀k:dH→Bool→Option (dH × Bool),eL (WR d) k=k d true:=fun k=>by
  by_cases h0:d.aF=0
  ·rw[hd.zero h0,UM,parse_zero]
  ·have:=parse_prt hd h0 [] 0 (.inl ⟨rfl,rfl⟩) (by omega) (by simp) k
   rw[List.append_nil,Int.add_zero,make_same hd h0]at this
   exact this
 have hl:(WR d).length≤4000000000:=by
  by_cases h0:d.aF=0
  ·rw[hd.zero h0,UM]; simp
  ·obtain ⟨I,F,pt,a,b,e1,e2,i0,i1,f0,f1,fl,il,iD,fD⟩:=Q7 d hd h0
   rw[e1]
   cases hdn:decide (d.aF<0) <;> cases pt <;> simp <;> omega
 have h1:=WY (WR d) hl (fun a b=>some (a,b))
 rw[key]at h1
 simp only[Option.some.injEq]at h1
 rw[h1]
theorem W0 {d:dH} (hd:Fm d):(∀b∈WR d,sD b=true)∧(∃c u,WR d=c::u∧(c.toNat=45∨(48≤c.toNat∧c.toNat≤57)))∧(WR d).length≤60:=by
 have dig:∀b:UInt8,me b→sD b=true:=fun b hb=>by
  have all:∀n:Fin 256,(48≤n.val∧n.val≤57)→sD (UInt8.ofNat n.val)=true:=by decide +kernel
  have:=all ⟨b.toNat,UInt8.toNat_lt b⟩ hb
  simpa using this
 by_cases h0:d.aF=0
 ·rw[hd.zero h0,UM]
  exact ⟨by decide,⟨48, [],rfl,by decide⟩,by simp⟩
 ·obtain ⟨I,F,pt,a,b,e1,e2,i0,i1,f0,f1,fl,il,iD,fD⟩:=Q7 d hd h0
  rw[e1]
  refine ⟨fun x hx => ?_,?_,?_⟩
  ·rcases List.mem_append.1 hx with hx|hx
   ·split at hx
    ·simp at hx; subst hx; decide
    ·simp at hx
   ·rcases List.mem_append.1 hx with hx|hx
    ·exact dig x (iD x hx)
    ·split at hx
     ·rcases List.mem_cons.1 hx with rfl|hx
      ·decide
      ·exact dig x (fD x hx)
     ·simp at hx
  ·cases I with
   | nil=>exact (i0 rfl).elim
   | cons c I =>
    cases decide (d.aF<0)with
    | true=>exact ⟨45,_,rfl,by decide⟩
    | false=>exact ⟨c,_,rfl, .inr (iD c (by simp))⟩
  ·cases hdn:decide (d.aF<0) <;> cases pt <;> simp <;> omega
theorem aaf {d:dH} (hd:Fm d):Word (WR d) ⟨3,WR d,d,0⟩:=by
 obtain ⟨h1,⟨c,u,h2,h3⟩,_⟩:=W0 hd
 have hp:=parseS_prt hd
 have hb:qJ c=false:=by
  have all:∀n:Fin 256,(n.val=45∨(48≤n.val∧n.val≤57))→qJ (UInt8.ofNat n.val)=false:=by decide +kernel
  have:=all ⟨c.toNat,UInt8.toNat_lt c⟩ h3
  simpa using this
 refine ⟨⟨c,u,h2,hb⟩,fun r hr => ?_⟩
 obtain ⟨t1,t2⟩:=Ys (WR d) r h1 (stop_num hr)
 have e:WR d++r=c::(u++r):=by rw[h2]; rfl
 rw[e]at t1 t2 ⊢
 simp only[tokS]
 rw[if_pos h3,t1,t2,hp]
 rfl
def sg (c:UInt8):vb:=([], [c],⟨1, [c],⟨0,0⟩,0⟩)
theorem DX:∀(a b:List vb) (z:ah),DW (a++b) z=DW a (DW b z)
 | [],_,_=>rfl
 | x::a,b,z=>by simp only[List.cons_append,DW,DX a b z]
theorem BR:∀(a b:List vb) (z:ah),okW (a++b) z↔okW a (DW b z)∧okW b z
 | [],b,z=>by simp[okW]
 | x::a,b,z=>by simp only[List.cons_append,okW,BR a b z,DX,and_assoc]
theorem DY {w:ah} {t:Token} (h:Word w t) {z:ah} (hz:NF z):okW [([],w,t)] z:=⟨by simp,h.1,h.2 z hz,trivial⟩
theorem DZ {c:UInt8} (h:Ic c=true) (z:ah):okW [sg c] z:=by
 refine ⟨by simp[sg],(WZ c h).1,?_,trivial⟩
 have all:∀n:Fin 256,Ic (UInt8.ofNat n.val)=true→¬(n.val=45∨(48≤n.val∧n.val≤57))∧¬n.val=34:=by decide +kernel
 obtain ⟨h2,h3⟩:=all ⟨c.toNat,UInt8.toNat_lt c⟩ (by simpa using h)
 show tokS (c::z)=some (⟨1, [c],⟨0,0⟩,0⟩,z)
 simp only[tokS]
 rw[if_neg h2,if_neg h3,if_pos h]
theorem Mp {c:UInt8} (h:Ic c=true) (z:ah):NF (c::z):=by
 have all:∀n:Fin 256,Ic (UInt8.ofNat n.val)=true→sD (UInt8.ofNat n.val)=false∧pr (UInt8.ofNat n.val)=false:=by decide +kernel
 obtain ⟨h2,h3⟩:=all ⟨c.toNat,UInt8.toNat_lt c⟩ (by simpa using h)
 exact .inr ⟨c,z,rfl,by simpa using h2,by simpa using h3⟩
end Go.Proofs.YtmlkkgfenfdndaaGreatDoor
/-
 Functions of the program as pure Lean functions, and the ties; printed by wip/tools/emit.py.
-/
set_option maxRecDepth 100000
namespace Go.Proofs.YtmlkkgfenfdndaaGreatDoor
open Go Go.aG
/-! ### humpyard/humpyardref01.Parse -/
abbrev tq (R:Type):Type:=ah→(dH→Bool→Option R)→Option R
abbrev Ho:List bE := [.leaf (.str)]
abbrev Hp:List aA := []
def LY {R:Type} (fn:tq R):bE.au Ho→aA.au Hp→(V→aO→Option R)→Option R:=fun x y k=>fn x.1 (fun q0 q1=>k (.tuple [.agg [.int .i64 q0.aF, .int .i64 q0.exp], .bool q1]) [])
def NG {R:Type} (fn:tq R):aG.Spec R→aG.Spec R:=bm Ho Hp (LY fn)
abbrev hM (R:Type):Type:=Nat→ah→Int→Int→Int→ah→Int→Bool→Int→Int→dH→(ah→Int→Int→Int→ah→Int→Bool→Int→dH→Option R)→Option R
abbrev hP (R:Type):Type:=Nat→Int→ah→Int→dH→(Int→ah→Int→dH→Option R)→Option R
abbrev hQ (R:Type):Type:=Nat→Int→ah→Int→dH→(Int→ah→Int→dH→Option R)→Option R
abbrev hU (R:Type):Type:=Nat→Int→ah→Int→Int→Int→dH→(Int→Int→Int→dH→Option R)→Option R
def gN {R:Type} (cH:mf R) (bT:j0 R):List (wv R) := [(117,true,(PF cH bb)),(141,true,(LV bT bb))]
theorem SD {R:Type}:ff (R:=R) Tryz.prog (gN cH bT) := .p (Sr R _ (aM _)) <| .p (PY R _ (aM _)) <| .n
def Ac {R:Type} (dq:ah→Int→Int→Int→ah→Int→Bool→Int→Int→dH→Option R) (wb:ah) (Gg:Int) (EM:Int) (x21:Int) (x22:ah) (x23:Int) (x24:Bool) (X8:Int) (X9:Int) (x27:dH) (e0:ah→Int→Int→Int→ah→Int→Bool→Int→dH→Option R):Option R :=
 bif (decide (X9<(IntKind.i64.wrap (Gg+x21))))then (cu (decide ((0:Int)≤X9)&&decide (X9<wb.length)) (dq wb Gg EM x21 x22 x23 x24 (min (IntKind.i64.wrap ((IntKind.i64.wrap (10*X8))+(IntKind.i64.wrap (IntKind.u8.wrap (((wb.getD X9.toNat 0).toNat:Int) - 48))))) 100000) (IntKind.i64.wrap (X9+1)) x27))else (e0 wb Gg EM x21 x22 x23 x24 X8 x27)
def bh {R:Type}:hM R
 | 0,_,_,_,_,_,_,_,_,_,_,_=>none
 | n+1,hY,hZ,iB,ql,E3,He,Sl,Sm,Sn,So,e0=>Ac (fun hY hZ iB ql E3 He Sl Sm Sn So=>bh n hY hZ iB ql E3 He Sl Sm Sn So e0) hY hZ iB ql E3 He Sl Sm Sn So e0
def uw:Hint := { live := [0,2,4,5,6,7,8,9,10,11],own := [],rows := [],cells := [],drop := [],out := [0,2,3,4,5,6,7,8,9,10] }
abbrev jM:Type:=ah × Int × Int × Int × ah × Int × Bool × Int × Int × dH
def r5:jM→St:=fun d=>⟨.str d.1 :: .undef :: .ptr 0 0 :: .undef :: .int .i64 d.2.1 :: .int .i64 d.2.2.1 :: .int .i64 d.2.2.2.1 :: .str d.2.2.2.2.1 :: .int .i64 d.2.2.2.2.2.1 :: .bool d.2.2.2.2.2.2.1 :: .int .i64 d.2.2.2.2.2.2.2.1 :: .int .i64 d.2.2.2.2.2.2.2.2.1::U 206 ([]), [.cells [.int .i64 d.2.2.2.2.2.2.2.2.2.aF, .int .i64 d.2.2.2.2.2.2.2.2.2.exp]]⟩
def yu {R:Type} (K:Ex→St→Option R) (q0:ah) (q1:Int) (q2:Int) (q3:Int) (q4:ah) (q5:Int) (q6:Bool) (q7:Int) (q8:dH):Option R:=K (.exit 0) ⟨.str q0 :: .undef :: .ptr 0 0 :: .undef :: .int .i64 q1 :: .int .i64 q2 :: .int .i64 q3 :: .str q4 :: .int .i64 q5 :: .bool q6 :: .int .i64 q7::U 207 ([]), [.cells [.int .i64 q8.aF, .int .i64 q8.exp]]⟩
def Ad {R:Type} (K:Ex→St→Option R) (rc:jM→Option R) (d:jM):Option R:=Ac (fun z0 z1 z2 z3 z4 z5 z6 z7 z8 z9=>rc (z0,z1,z2,z3,z4,z5,z6,z7,z8,z9)) d.1 d.2.1 d.2.2.1 d.2.2.2.1 d.2.2.2.2.1 d.2.2.2.2.2.1 d.2.2.2.2.2.2.1 d.2.2.2.2.2.2.2.1 d.2.2.2.2.2.2.2.2.1 d.2.2.2.2.2.2.2.2.2 (yu K)
def nV {R:Type} (K:Ex→St→Option R) (n:Nat) (d:jM):Option R:=bh n d.1 d.2.1 d.2.2.1 d.2.2.2.1 d.2.2.2.2.1 d.2.2.2.2.2.1 d.2.2.2.2.2.2.1 d.2.2.2.2.2.2.2.1 d.2.2.2.2.2.2.2.2.1 d.2.2.2.2.2.2.2.2.2 (yu K)
abbrev jN:List bE := .leaf (.str) :: .leaf (.undef) :: .leaf (.ptr 0 0) :: .leaf (.undef) :: .leaf (.int .i64) :: .leaf (.int .i64) :: .leaf (.int .i64) :: .leaf (.str) :: .leaf (.int .i64) :: .leaf (.bool) :: .leaf (.int .i64) :: .leaf (.int .i64)::PU 206 ([])
abbrev jO:List aA := [.cells [.int .i64, .int .i64]]
def Ae (x:bE.au jN) (y:aA.au jO):Nat:=(List.length x.1+Int.natAbs x.2.2.2.2.1+Int.natAbs x.2.2.2.2.2.1+Int.natAbs x.2.2.2.2.2.2.1+List.length x.2.2.2.2.2.2.2.1+Int.natAbs x.2.2.2.2.2.2.2.2.1+Int.natAbs x.2.2.2.2.2.2.2.2.2.2.1+Int.natAbs x.2.2.2.2.2.2.2.2.2.2.2.1+dH.fu (⟨y.1.1,y.1.2.1⟩:dH)+64)
def Af (x:bE.au jN) (y:aA.au jO):jM:=(x.1,x.2.2.2.2.1,x.2.2.2.2.2.1,x.2.2.2.2.2.2.1,x.2.2.2.2.2.2.2.1,x.2.2.2.2.2.2.2.2.1,x.2.2.2.2.2.2.2.2.2.1,x.2.2.2.2.2.2.2.2.2.2.1,x.2.2.2.2.2.2.2.2.2.2.2.1,(⟨y.1.1,y.1.2.1⟩:dH))
def yv {R:Type} (L:hM R):bE.au jN→aA.au jO→(Ex→St→Option R)→Option R:=fun x y K=>L (Ae x y) x.1 x.2.2.2.2.1 x.2.2.2.2.2.1 x.2.2.2.2.2.2.1 x.2.2.2.2.2.2.2.1 x.2.2.2.2.2.2.2.2.1 x.2.2.2.2.2.2.2.2.2.1 x.2.2.2.2.2.2.2.2.2.2.1 x.2.2.2.2.2.2.2.2.2.2.2.1 (⟨y.1.1,y.1.2.1⟩:dH) (yu K)
def Ag {R:Type} (dq:Int→ah→Int→dH→Option R) (x46:Int) (x47:ah) (x48:Int) (x49:dH) (e0:Int→ah→Int→dH→Option R):Option R :=
 bif (decide ((x47.length:Int)>(1:Int)))then (cu (decide ((0:Int)<x47.length)) (bif (((x47.getD 0 0).toNat:Int)==48)then (cu (decide ((0:Int)≤(x47.length:Int))&&decide ((x47.length:Int)≤x47.length)) (cu (decide ((1:Int)≤(x47.length:Int))) (dq x46 ((x47.drop 1).take ((x47.length:Int).toNat - 1)) x48 x49)))else (e0 x46 x47 x48 x49)))else (e0 x46 x47 x48 x49)
def bj {R:Type}:hP R
 | 0,_,_,_,_,_=>none
 | n+1,hY,hZ,iB,ql,e0=>Ag (fun hY hZ iB ql=>bj n hY hZ iB ql e0) hY hZ iB ql e0
def ux:Hint := { live := [2,5,7,8],own := [],rows := [],cells := [],drop := [],out := [2,3,5,7,8] }
abbrev jP:Type:=Int × ah × Int × dH
def r6:jP→St:=fun d=>⟨U 2 (.ptr 0 0::U 2 (.int .i64 d.1 :: .undef :: .str d.2.1 :: .int .i64 d.2.2.1::U 209 ([]))), [.cells [.int .i64 d.2.2.2.aF, .int .i64 d.2.2.2.exp]]⟩
def yw {R:Type} (K:Ex→St→Option R) (q0:Int) (q1:ah) (q2:Int) (q3:dH):Option R:=K (.exit 2) ⟨U 2 (.ptr 0 0::U 2 (.int .i64 q0 :: .undef :: .str q1 :: .int .i64 q2::U 209 ([]))), [.cells [.int .i64 q3.aF, .int .i64 q3.exp]]⟩
def Ah {R:Type} (K:Ex→St→Option R) (rc:jP→Option R) (d:jP):Option R:=Ag (fun z0 z1 z2 z3=>rc (z0,z1,z2,z3)) d.1 d.2.1 d.2.2.1 d.2.2.2 (yw K)
def nW {R:Type} (K:Ex→St→Option R) (n:Nat) (d:jP):Option R:=bj n d.1 d.2.1 d.2.2.1 d.2.2.2 (yw K)
abbrev jQ:List bE:=PU 2 (.leaf (.ptr 0 0)::PU 2 (.leaf (.int .i64) :: .leaf (.undef) :: .leaf (.str) :: .leaf (.int .i64)::PU 209 ([])))
abbrev jR:List aA := [.cells [.int .i64, .int .i64]]
def Ai (x:bE.au jQ) (y:aA.au jR):Nat:=(Int.natAbs x.2.2.2.2.2.1+List.length x.2.2.2.2.2.2.2.1+Int.natAbs x.2.2.2.2.2.2.2.2.1+dH.fu (⟨y.1.1,y.1.2.1⟩:dH)+64)
def Aj (x:bE.au jQ) (y:aA.au jR):jP:=(x.2.2.2.2.2.1,x.2.2.2.2.2.2.2.1,x.2.2.2.2.2.2.2.2.1,(⟨y.1.1,y.1.2.1⟩:dH))
def yx {R:Type} (L:hP R):bE.au jQ→aA.au jR→(Ex→St→Option R)→Option R:=fun x y K=>L (Ai x y) x.2.2.2.2.2.1 x.2.2.2.2.2.2.2.1 x.2.2.2.2.2.2.2.2.1 (⟨y.1.1,y.1.2.1⟩:dH) (yw K)
def uy {R:Type} (dq:Int→ah→Int→dH→Option R) (x55:Int) (x56:ah) (x57:Int) (x58:dH) (e0:Int→ah→Int→dH→Option R):Option R :=
 bif (decide ((x56.length:Int)>(1:Int)))then (cu (decide ((0:Int)≤(IntKind.i64.wrap ((x56.length:Int) - 1)))&&decide ((IntKind.i64.wrap ((x56.length:Int) - 1))<x56.length)) (bif (((x56.getD ((IntKind.i64.wrap ((x56.length:Int) - 1)).toNat) 0).toNat:Int)==48)then (cu (decide ((0:Int)≤(IntKind.i64.wrap ((x56.length:Int) - 1)))&&decide ((IntKind.i64.wrap ((x56.length:Int) - 1))≤x56.length)) (cu (decide ((0:Int)≤(IntKind.i64.wrap ((x56.length:Int) - 1)))) (dq x55 ((x56.drop 0).take ((IntKind.i64.wrap ((x56.length:Int) - 1)).toNat - 0)) (IntKind.i64.wrap (x57+1)) x58)))else (e0 x55 x56 x57 x58)))else (e0 x55 x56 x57 x58)
def aX {R:Type}:hQ R
 | 0,_,_,_,_,_=>none
 | n+1,hY,hZ,iB,ql,e0=>uy (fun hY hZ iB ql=>aX n hY hZ iB ql e0) hY hZ iB ql e0
def uz:Hint := { live := [2,5,7,8],own := [],rows := [],cells := [],drop := [],out := [2,3,5,7,8] }
abbrev jS:Type:=Int × ah × Int × dH
def r7:jS→St:=fun d=>⟨U 2 (.ptr 0 0::U 2 (.int .i64 d.1 :: .undef :: .str d.2.1 :: .int .i64 d.2.2.1::U 209 ([]))), [.cells [.int .i64 d.2.2.2.aF, .int .i64 d.2.2.2.exp]]⟩
def yy {R:Type} (K:Ex→St→Option R) (q0:Int) (q1:ah) (q2:Int) (q3:dH):Option R:=K (.exit 4) ⟨U 2 (.ptr 0 0::U 2 (.int .i64 q0 :: .undef :: .str q1 :: .int .i64 q2::U 209 ([]))), [.cells [.int .i64 q3.aF, .int .i64 q3.exp]]⟩
def Ak {R:Type} (K:Ex→St→Option R) (rc:jS→Option R) (d:jS):Option R:=uy (fun z0 z1 z2 z3=>rc (z0,z1,z2,z3)) d.1 d.2.1 d.2.2.1 d.2.2.2 (yy K)
def nX {R:Type} (K:Ex→St→Option R) (n:Nat) (d:jS):Option R:=aX n d.1 d.2.1 d.2.2.1 d.2.2.2 (yy K)
abbrev jT:List bE:=PU 2 (.leaf (.ptr 0 0)::PU 2 (.leaf (.int .i64) :: .leaf (.undef) :: .leaf (.str) :: .leaf (.int .i64)::PU 209 ([])))
abbrev jU:List aA := [.cells [.int .i64, .int .i64]]
def Al (x:bE.au jT) (y:aA.au jU):Nat:=(Int.natAbs x.2.2.2.2.2.1+List.length x.2.2.2.2.2.2.2.1+Int.natAbs x.2.2.2.2.2.2.2.2.1+dH.fu (⟨y.1.1,y.1.2.1⟩:dH)+64)
def Am (x:bE.au jT) (y:aA.au jU):jS:=(x.2.2.2.2.2.1,x.2.2.2.2.2.2.2.1,x.2.2.2.2.2.2.2.2.1,(⟨y.1.1,y.1.2.1⟩:dH))
def yz {R:Type} (L:hQ R):bE.au jT→aA.au jU→(Ex→St→Option R)→Option R:=fun x y K=>L (Al x y) x.2.2.2.2.2.1 x.2.2.2.2.2.2.2.1 x.2.2.2.2.2.2.2.2.1 (⟨y.1.1,y.1.2.1⟩:dH) (yy K)
def An {R:Type} (dq:Int→ah→Int→Int→Int→dH→Option R) (x64:Int) (x65:ah) (x66:Int) (x67:Int) (x68:Int) (x69:dH) (e0:Int→Int→Int→dH→Option R):Option R :=
 bif (decide (x68<(x65.length:Int)))then (cu (decide ((0:Int)≤x68)&&decide (x68<x65.length)) (dq x64 x65 x66 (IntKind.i64.wrap ((IntKind.i64.wrap (10*x67))+(IntKind.i64.wrap (IntKind.u8.wrap (((x65.getD x68.toNat 0).toNat:Int) - 48))))) (IntKind.i64.wrap (x68+1)) x69))else (e0 x64 x66 x67 x69)
def bf {R:Type}:hU R
 | 0,_,_,_,_,_,_,_=>none
 | n+1,hY,hZ,iB,ql,E3,He,e0=>An (fun hY hZ iB ql E3 He=>bf n hY hZ iB ql E3 He e0) hY hZ iB ql E3 He e0
def uA:Hint := { live := [2,5,7,8,12,13],own := [],rows := [],cells := [],drop := [],out := [2,3,5,8,12] }
abbrev jV:Type:=Int × ah × Int × Int × Int × dH
def r8:jV→St:=fun d=>⟨U 2 (.ptr 0 0::U 2 (.int .i64 d.1 :: .undef :: .str d.2.1 :: .int .i64 d.2.2.1::U 3 (.int .i64 d.2.2.2.1 :: .int .i64 d.2.2.2.2.1::U 204 ([])))), [.cells [.int .i64 d.2.2.2.2.2.aF, .int .i64 d.2.2.2.2.2.exp]]⟩
def yA {R:Type} (K:Ex→St→Option R) (q0:Int) (q1:Int) (q2:Int) (q3:dH):Option R:=K (.exit 6) ⟨U 2 (.ptr 0 0::U 2 (.int .i64 q0::U 2 (.int .i64 q1::U 3 (.int .i64 q2::U 205 ([]))))), [.cells [.int .i64 q3.aF, .int .i64 q3.exp]]⟩
def Ao {R:Type} (K:Ex→St→Option R) (rc:jV→Option R) (d:jV):Option R:=An (fun z0 z1 z2 z3 z4 z5=>rc (z0,z1,z2,z3,z4,z5)) d.1 d.2.1 d.2.2.1 d.2.2.2.1 d.2.2.2.2.1 d.2.2.2.2.2 (yA K)
def nY {R:Type} (K:Ex→St→Option R) (n:Nat) (d:jV):Option R:=bf n d.1 d.2.1 d.2.2.1 d.2.2.2.1 d.2.2.2.2.1 d.2.2.2.2.2 (yA K)
abbrev jW:List bE:=PU 2 (.leaf (.ptr 0 0)::PU 2 (.leaf (.int .i64) :: .leaf (.undef) :: .leaf (.str) :: .leaf (.int .i64)::PU 3 (.leaf (.int .i64) :: .leaf (.int .i64)::PU 204 ([]))))
abbrev jX:List aA := [.cells [.int .i64, .int .i64]]
def Ap (x:bE.au jW) (y:aA.au jX):Nat:=(Int.natAbs x.2.2.2.2.2.1+List.length x.2.2.2.2.2.2.2.1+Int.natAbs x.2.2.2.2.2.2.2.2.1+Int.natAbs x.2.2.2.2.2.2.2.2.2.2.2.2.1+Int.natAbs x.2.2.2.2.2.2.2.2.2.2.2.2.2.1+dH.fu (⟨y.1.1,y.1.2.1⟩:dH)+64)
def Aq (x:bE.au jW) (y:aA.au jX):jV:=(x.2.2.2.2.2.1,x.2.2.2.2.2.2.2.1,x.2.2.2.2.2.2.2.2.1,x.2.2.2.2.2.2.2.2.2.2.2.2.1,x.2.2.2.2.2.2.2.2.2.2.2.2.2.1,(⟨y.1.1,y.1.2.1⟩:dH))
def yB {R:Type} (L:hU R):bE.au jW→aA.au jX→(Ex→St→Option R)→Option R:=fun x y K=>L (Ap x y) x.2.2.2.2.2.1 x.2.2.2.2.2.2.2.1 x.2.2.2.2.2.2.2.2.1 x.2.2.2.2.2.2.2.2.2.2.2.2.1 x.2.2.2.2.2.2.2.2.2.2.2.2.2.1 (⟨y.1.1,y.1.2.1⟩:dH) (yA K)
def ir (R:Type) (bh:hM R) (bj:hP R) (aX:hQ R) (bf:hU R):Nat→Option (Hint × dC R):=fun i=>match i with
 | 32=>some (uw,(dx jN jO (yv bh) j7))
 | 41=>some (ux,(dx jQ jR (yx bj) j7))
 | 43=>some (uz,(dx jT jU (yz aX) j7))
 | 50=>some (uA,(dx jW jX (yB bf) j7))
 | _=>none
theorem KF {R:Type} (cH:mf R) (bT:j0 R) (bh:hM R) (bj:hP R) (aX:hQ R) (bf:hU R) (K:Ex→St→Option R) (rc:St→Option R) (d:jM):roundOf tt (dM (gN cH bT)) (ir R bh bj aX bf) 0 ((aT (aI Tryz.f121)).getD 0 .skip) uw (r5 d) rc K=Ad K (fun d=>rc (r5 d)) d:=by kernel_rfl
theorem Ie {R:Type} (K:Ex→St→Option R) (n:Nat) (d:jM):nV K (n+1) d=Ad K (nV K n) d:=by kernel_rfl
theorem Ig {R:Type} (K:Ex→St→Option R) (d:jM):nV K 0 d=none:=by kernel_rfl
theorem KG (x:bE.au jN) (y:aA.au jO):(⟨bE.eD jN x,aA.eD jO y⟩:St)=r5 (Af x y):=by kernel_rfl
theorem KH {R:Type} (x:bE.au jN) (y:aA.au jO) (K:Ex→St→Option R):yv (bh) x y K=nV K (Ae x y) (Af x y):=by kernel_rfl
theorem MX {R:Type} (other:dC R) (ho:jt tt (dM (gN cH bT)) (ir R bh bj aX bf) 0 ((aT (aI Tryz.f121)).getD 0 .skip) uw other):jt tt (dM (gN cH bT)) (ir R bh bj aX bf) 0 ((aT (aI Tryz.f121)).getD 0 .skip) uw (dx jN jO (yv (bh)) other) :=
 dL (A:=nV) ho (fw r5 (Ad) (nV) (Ig) (KF cH bT bh bj aX bf) (Ie)) Ae Af KG (KH)
theorem KI {R:Type} (cH:mf R) (bT:j0 R) (bh:hM R) (bj:hP R) (aX:hQ R) (bf:hU R) (K:Ex→St→Option R) (rc:St→Option R) (d:jP):roundOf tt (dM (gN cH bT)) (ir R bh bj aX bf) 0 ((aT (aI Tryz.f121)).getD 1 .skip) ux (r6 d) rc K=Ah K (fun d=>rc (r6 d)) d:=by kernel_rfl
theorem Ih {R:Type} (K:Ex→St→Option R) (n:Nat) (d:jP):nW K (n+1) d=Ah K (nW K n) d:=by kernel_rfl
theorem Ii {R:Type} (K:Ex→St→Option R) (d:jP):nW K 0 d=none:=by kernel_rfl
theorem KJ (x:bE.au jQ) (y:aA.au jR):(⟨bE.eD jQ x,aA.eD jR y⟩:St)=r6 (Aj x y):=by kernel_rfl
theorem KK {R:Type} (x:bE.au jQ) (y:aA.au jR) (K:Ex→St→Option R):yx (bj) x y K=nW K (Ai x y) (Aj x y):=by kernel_rfl
theorem MY {R:Type} (other:dC R) (ho:jt tt (dM (gN cH bT)) (ir R bh bj aX bf) 0 ((aT (aI Tryz.f121)).getD 1 .skip) ux other):jt tt (dM (gN cH bT)) (ir R bh bj aX bf) 0 ((aT (aI Tryz.f121)).getD 1 .skip) ux (dx jQ jR (yx (bj)) other) :=
 dL (A:=nW) ho (fw r6 (Ah) (nW) (Ii) (KI cH bT bh bj aX bf) (Ih)) Ai Aj KJ (KK)
theorem KL {R:Type} (cH:mf R) (bT:j0 R) (bh:hM R) (bj:hP R) (aX:hQ R) (bf:hU R) (K:Ex→St→Option R) (rc:St→Option R) (d:jS):roundOf tt (dM (gN cH bT)) (ir R bh bj aX bf) 0 ((aT (aI Tryz.f121)).getD 2 .skip) uz (r7 d) rc K=Ak K (fun d=>rc (r7 d)) d:=by kernel_rfl
theorem Ij {R:Type} (K:Ex→St→Option R) (n:Nat) (d:jS):nX K (n+1) d=Ak K (nX K n) d:=by kernel_rfl
theorem Ik {R:Type} (K:Ex→St→Option R) (d:jS):nX K 0 d=none:=by kernel_rfl
theorem KM (x:bE.au jT) (y:aA.au jU):(⟨bE.eD jT x,aA.eD jU y⟩:St)=r7 (Am x y):=by kernel_rfl
theorem KN {R:Type} (x:bE.au jT) (y:aA.au jU) (K:Ex→St→Option R):yz (aX) x y K=nX K (Al x y) (Am x y):=by kernel_rfl
theorem MZ {R:Type} (other:dC R) (ho:jt tt (dM (gN cH bT)) (ir R bh bj aX bf) 0 ((aT (aI Tryz.f121)).getD 2 .skip) uz other):jt tt (dM (gN cH bT)) (ir R bh bj aX bf) 0 ((aT (aI Tryz.f121)).getD 2 .skip) uz (dx jT jU (yz (aX)) other) :=
 dL (A:=nX) ho (fw r7 (Ak) (nX) (Ik) (KL cH bT bh bj aX bf) (Ij)) Al Am KM (KN)
theorem KO {R:Type} (cH:mf R) (bT:j0 R) (bh:hM R) (bj:hP R) (aX:hQ R) (bf:hU R) (K:Ex→St→Option R) (rc:St→Option R) (d:jV):roundOf tt (dM (gN cH bT)) (ir R bh bj aX bf) 0 ((aT (aI Tryz.f121)).getD 3 .skip) uA (r8 d) rc K=Ao K (fun d=>rc (r8 d)) d:=by kernel_rfl
theorem Il {R:Type} (K:Ex→St→Option R) (n:Nat) (d:jV):nY K (n+1) d=Ao K (nY K n) d:=by kernel_rfl
theorem Im {R:Type} (K:Ex→St→Option R) (d:jV):nY K 0 d=none:=by kernel_rfl
theorem KP (x:bE.au jW) (y:aA.au jX):(⟨bE.eD jW x,aA.eD jX y⟩:St)=r8 (Aq x y):=by kernel_rfl
theorem KQ {R:Type} (x:bE.au jW) (y:aA.au jX) (K:Ex→St→Option R):yB (bf) x y K=nY K (Ap x y) (Aq x y):=by kernel_rfl
theorem M0 {R:Type} (other:dC R) (ho:jt tt (dM (gN cH bT)) (ir R bh bj aX bf) 0 ((aT (aI Tryz.f121)).getD 3 .skip) uA other):jt tt (dM (gN cH bT)) (ir R bh bj aX bf) 0 ((aT (aI Tryz.f121)).getD 3 .skip) uA (dx jW jX (yB (bf)) other) :=
 dL (A:=nY) ho (fw r8 (Ao) (nY) (Im) (KO cH bT bh bj aX bf) (Il)) Ap Aq KP (KQ)
def Dx {R:Type} (cH:mf R) (bT:j0 R) (bh:hM R) (bj:hP R) (aX:hQ R) (bf:hU R) (x1:ah) (k0:dH→Bool→Option R):Option R :=
 bif (decide ((x1.length:Int)>(400:Int)))then (k0 (⟨0,0⟩:dH) false)else (let j79:=fun (z3:Int) (z4:Int)=>bT x1 z3 (fun y5=>let j78:=cu (decide ((0:Int)≤(IntKind.i64.wrap (z3+y5)))&&decide ((IntKind.i64.wrap (z3+y5))≤x1.length)) (cu (decide ((0:Int)≤z3)&&decide (z3≤(IntKind.i64.wrap (z3+y5)))) (let j77:=fun (uO:Int) (sn:ah) (z12:Int)=>let j76:=fun (z40:ah) (z41:Int) (z42:Int) (z43:ah) (z44:Int) (z45:dH)=>bif (z41 != (z40.length:Int))then (k0 (⟨0,0⟩:dH) false)else (bj (Int.natAbs z42+List.length z43+Int.natAbs z44+dH.fu z45+64) z42 z43 z44 z45 (fun ZZ VV WT WU=>aX (Int.natAbs ZZ+List.length VV+Int.natAbs WT+dH.fu WU+64) ZZ VV WT WU (fun y60 y61 y62 y63=>bif (decide ((y61.length:Int)>(17:Int)))then (k0 (⟨0,0⟩:dH) false)else (bf (Int.natAbs y60+List.length y61+Int.natAbs y62+Int.natAbs 0+Int.natAbs 0+dH.fu y63+64) y60 y61 y62 0 0 y63 (fun y70 y71 y72 y73=>cH (IntKind.i64.wrap (y70*y72)) y71 (fun y74 y75=>k0 y74 y75)))))); let j39:=fun (VP:Bool)=>bif VP then (let j38:=fun (VU:Int) (z16:Bool)=>bT x1 VU (fun Iv=>bif (Iv==0)then (k0 (⟨0,0⟩:dH) false)else (bh (List.length x1+Int.natAbs VU+Int.natAbs z4+Int.natAbs Iv+List.length sn+Int.natAbs z12+Int.natAbs 0+Int.natAbs VU+dH.fu (⟨0,0⟩:dH)+64) x1 VU z4 Iv sn z12 z16 0 VU (⟨0,0⟩:dH) (fun I8 RN Si S9 Sj Vu WS VT Sk=>bif WS then (j76 I8 (IntKind.i64.wrap (RN+S9)) Si Sj (IntKind.i64.wrap (Vu+(IntKind.i64.wrap (0 - VT)))) Sk)else (j76 I8 (IntKind.i64.wrap (RN+S9)) Si Sj (IntKind.i64.wrap (Vu+VT)) Sk)))); bif (decide ((IntKind.i64.wrap (uO+1))<(x1.length:Int)))then (cu (decide ((0:Int)≤(IntKind.i64.wrap (uO+1)))&&decide ((IntKind.i64.wrap (uO+1))<x1.length)) (bif (((x1.getD ((IntKind.i64.wrap (uO+1)).toNat) 0).toNat:Int)==43)then (cu (decide ((0:Int)≤(IntKind.i64.wrap (uO+1)))&&decide ((IntKind.i64.wrap (uO+1))<x1.length)) (j38 (IntKind.i64.wrap ((IntKind.i64.wrap (uO+1))+1)) (((x1.getD ((IntKind.i64.wrap (uO+1)).toNat) 0).toNat:Int)==45)))else (cu (decide ((0:Int)≤(IntKind.i64.wrap (uO+1)))&&decide ((IntKind.i64.wrap (uO+1))<x1.length)) (bif (((x1.getD ((IntKind.i64.wrap (uO+1)).toNat) 0).toNat:Int)==45)then (cu (decide ((0:Int)≤(IntKind.i64.wrap (uO+1)))&&decide ((IntKind.i64.wrap (uO+1))<x1.length)) (j38 (IntKind.i64.wrap ((IntKind.i64.wrap (uO+1))+1)) (((x1.getD ((IntKind.i64.wrap (uO+1)).toNat) 0).toNat:Int)==45)))else (j38 (IntKind.i64.wrap (uO+1)) false)))))else (j38 (IntKind.i64.wrap (uO+1)) false))else (j76 x1 uO z4 sn z12 (⟨0,0⟩:dH)); bif (decide (uO<(x1.length:Int)))then (cu (decide ((0:Int)≤uO)&&decide (uO<x1.length)) (bif (((x1.getD uO.toNat 0).toNat:Int)==101)then (j39 true)else (cu (decide ((0:Int)≤uO)&&decide (uO<x1.length)) (j39 (((x1.getD uO.toNat 0).toNat:Int)==69)))))else (j39 false); let j9:=fun (z7:Bool)=>bif z7 then (bT x1 (IntKind.i64.wrap ((IntKind.i64.wrap (z3+y5))+1)) (fun y8=>bif (y8==0)then (k0 (⟨0,0⟩:dH) false)else (cu (decide ((0:Int)≤(IntKind.i64.wrap ((IntKind.i64.wrap ((IntKind.i64.wrap (z3+y5))+1))+y8)))&&decide ((IntKind.i64.wrap ((IntKind.i64.wrap ((IntKind.i64.wrap (z3+y5))+1))+y8))≤x1.length)) (cu (decide ((0:Int)≤(IntKind.i64.wrap ((IntKind.i64.wrap (z3+y5))+1)))&&decide ((IntKind.i64.wrap ((IntKind.i64.wrap (z3+y5))+1))≤(IntKind.i64.wrap ((IntKind.i64.wrap ((IntKind.i64.wrap (z3+y5))+1))+y8)))) (cu (decide (((x1.drop z3.toNat).take ((IntKind.i64.wrap (z3+y5)).toNat - z3.toNat)).length+((x1.drop (IntKind.i64.wrap ((IntKind.i64.wrap (z3+y5))+1)).toNat).take ((IntKind.i64.wrap ((IntKind.i64.wrap ((IntKind.i64.wrap (z3+y5))+1))+y8)).toNat - (IntKind.i64.wrap ((IntKind.i64.wrap (z3+y5))+1)).toNat)).length≤9223372036854775807)) (j77 (IntKind.i64.wrap ((IntKind.i64.wrap ((IntKind.i64.wrap (z3+y5))+1))+y8)) (((x1.drop z3.toNat).take ((IntKind.i64.wrap (z3+y5)).toNat - z3.toNat))++((x1.drop (IntKind.i64.wrap ((IntKind.i64.wrap (z3+y5))+1)).toNat).take ((IntKind.i64.wrap ((IntKind.i64.wrap ((IntKind.i64.wrap (z3+y5))+1))+y8)).toNat - (IntKind.i64.wrap ((IntKind.i64.wrap (z3+y5))+1)).toNat))) (IntKind.i64.wrap (0 - y8))))))))else (j77 (IntKind.i64.wrap (z3+y5)) ((x1.drop z3.toNat).take ((IntKind.i64.wrap (z3+y5)).toNat - z3.toNat)) 0); bif (decide ((IntKind.i64.wrap (z3+y5))<(x1.length:Int)))then (cu (decide ((0:Int)≤(IntKind.i64.wrap (z3+y5)))&&decide ((IntKind.i64.wrap (z3+y5))<x1.length)) (j9 (((x1.getD ((IntKind.i64.wrap (z3+y5)).toNat) 0).toNat:Int)==46)))else (j9 false))); bif (y5==0)then (k0 (⟨0,0⟩:dH) false)else (bif (decide (y5>(1:Int)))then (cu (decide ((0:Int)≤z3)&&decide (z3<x1.length)) (bif (((x1.getD z3.toNat 0).toNat:Int)==48)then (k0 (⟨0,0⟩:dH) false)else (j78)))else (j78))); bif (decide ((0:Int)<(x1.length:Int)))then (cu (decide ((0:Int)<x1.length)) (bif (((x1.getD 0 0).toNat:Int)==45)then (j79 1 (-1))else (j79 0 1)))else (j79 0 1))
def jY {R:Type}:tq R:=fun x1 k0=>Dx cH bT bh bj aX bf x1 k0
theorem UP {R:Type} (cH:mf R) (bT:j0 R) (bh:hM R) (bj:hP R) (aX:hQ R) (bf:hU R):gS (R:=R) tt (gN cH bT) (ir R bh bj aX bf) false Tryz.f121 (aI Tryz.f121) Ho Hp (LY (Dx cH bT bh bj aX bf)):=fun x y k=>by kernel_rfl
theorem P0 (R:Type):∀a∈aT (aI Tryz.f121),jn tt (dM (gN cH bT)) (ir R bh bj aX bf) 0 a:=by
 refine gR 4 (by kernel_rfl) fun i hi => ?_
 match i,hi with
 | 0,_=>exact cW (by kernel_rfl) (MX _ eN)
 | 1,_=>exact cW (by kernel_rfl) (MY _ eN)
 | 2,_=>exact cW (by kernel_rfl) (MZ _ eN)
 | 3,_=>exact cW (by kernel_rfl) (M0 _ eN)
 | n+4,hi=>omega
theorem Q8 (R:Type):sM Tryz.prog 121 (NG (jY (R:=R))):=cC TT mixed (SD (R:=R)) rfl rfl rfl rfl (P0 R) (UP cH bT bh bj aX bf)
end Go.Proofs.YtmlkkgfenfdndaaGreatDoor
end
