/-
  TopTexts: for every input whose bulk is at most 1048576 the law returns true, and each argument reads behind the call as it read before; part 8 of 8 of the proof: an interpreter of the model's code over typed data, proved sound; the functions that the law reaches, printed as Lean functions and tied; the plain law. Own texts laid one behind the other.
-/
import Derived.Test.YtmlkkgfenfdndaaGreatDoorTopTextsB7
set_option linter.unusedSimpArgs false
set_option linter.unnecessarySimpa false
set_option linter.unusedVariables false
set_option linter.unusedSectionVars false
noncomputable section
/-
 Functions of the program as pure Lean functions, and the ties; printed by wip/tools/emit.py.
-/
set_option maxRecDepth 100000
namespace Go.Proofs.YtmlkkgfenfdndaaGreatDoor
open Go Go.aF

/-! ### humpyard/humpyardlaw04.Fit -/
abbrev dh (R:Type):Type:=Raw→Int→(Json→Option R)→Option R
abbrev oB:List ck := [.agg [.int .i64, .int .i64, .int .i64, .sl (.int .i64), .sl .raw], .leaf (.int .i64)]
abbrev oC:List aN := []
def jg {R:Type} (fn:dh R):ck.aH oB→aN.aH oC→(V→aG→Option R)→Option R:=fun x y k=>fn (⟨x.1.1,x.1.2.1,x.1.2.2.1,x.1.2.2.2.1,x.1.2.2.2.2.1⟩:Raw) x.2.1 (fun q0=>k (.agg [.int .i64 q0.kind, .int .i64 q0.num.aB, .int .i64 q0.num.exp, .str q0.text, .sl .str q0.names .no, .sl .json q0.items .no]) [])
def J2 {R:Type} (fn:dh R):aF.Spec R→aF.Spec R:=bj oB oC (jg fn)
abbrev iT (R:Type):Type:=Nat→Int→Int→Int→aj→Bool→Int→Raw→Int→Int→Int→aj→Int→Int→Int→aj→(List aj)→(List Json)→Raw→(Int→Int→Int→aj→Bool→Raw→Int→Int→Int→aj→Int→Int→Int→aj→(List aj)→(List Json)→Raw→Option R)→Option R
abbrev ku (R:Type):Type:=Nat→Int→Int→Int→Raw→Int→Int→Int→aj→Int→Int→Int→aj→(List aj)→(List Json)→(Int→Int→Int→aj→Int→Int→Int→aj→(List aj)→(List Json)→Option R)→Option R
def oD {R:Type} (bU:gu R) (di:jY R) (aD:dh R) (eS:mM R):List (uI R) := [(37,true,(C8 bU aZ)),(28,true,(EJ di aZ)),(16,true,(bj oB oC (jg aD) aZ)),(35,true,(HR eS aZ))]
theorem NL {R:Type} (aD:dh R) (uE:aF.Spec.Ok Tryz.prog 16 (bj oB oC (jg aD) aZ)):eU (R:=R) Tryz.prog (oD bU di aD eS) := .p (DQ R _ (aK _)) <| .p (EM R _ (aK _)) <| .p uE <| .p (Kd R _ (aK _)) <| .n
def sS {R:Type} (fC:Int→Int→Int→aj→Bool→Int→Raw→Int→Int→Int→aj→Int→Int→Int→aj→(List aj)→(List Json)→Raw→Option R) (x23:Int) (Xi:Int) (Xj:Int) (Qd:aj) (x27:Bool) (x28:Int) (Ip:Raw) (UJ:Int) (x31:Int) (x32:Int) (x33:aj) (x34:Int) (x35:Int) (x36:Int) (x37:aj) (x38:List aj) (x39:List Json) (TP:Raw) (e0:Int→Int→Int→aj→Bool→Raw→Int→Int→Int→aj→Int→Int→Int→aj→(List aj)→(List Json)→Raw→Option R):Option R :=
 bif (decide (x28<(x38.length:Int)))then (bif x27 then (fC x23 Xi Xj Qd true (IntKind.i64.wrap (x28+1)) (⟨Ip.kind,Ip.aB,Ip.exp,Ip.text,Ip.items⟩:Raw) UJ x31 x32 x33 x34 x35 x36 x37 x38 x39 (⟨TP.kind,TP.aB,TP.exp,TP.text,TP.items⟩:Raw))else (cw (decide ((0:Int)≤x28)&&decide (x28<x38.length)) (fC x23 Xi Xj Qd ((x38.getD x28.toNat (Ty.bY .str))==Qd) (IntKind.i64.wrap (x28+1)) (⟨Ip.kind,Ip.aB,Ip.exp,Ip.text,Ip.items⟩:Raw) UJ x31 x32 x33 x34 x35 x36 x37 x38 x39 (⟨TP.kind,TP.aB,TP.exp,TP.text,TP.items⟩:Raw))))else (e0 x23 Xi Xj Qd x27 (⟨Ip.kind,Ip.aB,Ip.exp,Ip.text,Ip.items⟩:Raw) UJ x31 x32 x33 x34 x35 x36 x37 x38 x39 (⟨TP.kind,TP.aB,TP.exp,TP.text,TP.items⟩:Raw))
def bz {R:Type}:iT R
 | 0,_,_,_,_,_,_,_,_,_,_,_,_,_,_,_,_,_,_,_=>none
 | n+1,kN,kO,lN,th,BT,Dk,Ks,Kt,Ku,Kv,zh,Fp,MI,MJ,Z5,Z6,Z7,Z8,e0=>sS (fun kN kO lN th BT Dk Ks Kt Ku Kv zh Fp MI MJ Z5 Z6 Z7 Z8=>bz n kN kO lN th BT Dk Ks Kt Ku Kv zh Fp MI MJ Z5 Z6 Z7 Z8 e0) kN kO lN th BT Dk Ks Kt Ku Kv zh Fp MI MJ Z5 Z6 Z7 Z8 e0
def sT:Hint := { live := [1,2,4,5,6,7,8,9,10,11],own := [],rows := [],cells := [],drop := [],out := [1,2,4,5,6,7,8,9,10] }
abbrev jH:Type:=Int × Int × Int × aj × Bool × Int × Raw × Int × Int × Int × aj × Int × Int × Int × aj × (List aj) × (List Json) × Raw
def qv:jH→St:=fun d=>⟨.undef :: .int .i64 d.1 :: .ptr 0 0 :: .undef :: .ptr 1 0 :: .int .i64 d.2.1 :: .ptr 2 0 :: .int .i64 d.2.2.1 :: .ptr 3 0 :: .str d.2.2.2.1 :: .bool d.2.2.2.2.1 :: .int .i64 d.2.2.2.2.2.1::U 93 ([]), [.cells [.int .i64 d.2.2.2.2.2.2.1.kind, .int .i64 d.2.2.2.2.2.2.1.aB, .int .i64 d.2.2.2.2.2.2.1.exp, .sl (.int .i64) d.2.2.2.2.2.2.1.text .no, .sl .raw d.2.2.2.2.2.2.1.items .no], .cells [.int .i64 d.2.2.2.2.2.2.2.1, .int .i64 d.2.2.2.2.2.2.2.2.1, .int .i64 d.2.2.2.2.2.2.2.2.2.1, .str d.2.2.2.2.2.2.2.2.2.2.1, .cM, .cM], .cells [.int .i64 d.2.2.2.2.2.2.2.2.2.2.2.1, .int .i64 d.2.2.2.2.2.2.2.2.2.2.2.2.1, .int .i64 d.2.2.2.2.2.2.2.2.2.2.2.2.2.1, .str d.2.2.2.2.2.2.2.2.2.2.2.2.2.2.1, .sl .str d.2.2.2.2.2.2.2.2.2.2.2.2.2.2.2.1 (.own 4), .sl .json d.2.2.2.2.2.2.2.2.2.2.2.2.2.2.2.2.1 (.own 5)], .cells [.int .i64 d.2.2.2.2.2.2.2.2.2.2.2.2.2.2.2.2.2.kind, .int .i64 d.2.2.2.2.2.2.2.2.2.2.2.2.2.2.2.2.2.aB, .int .i64 d.2.2.2.2.2.2.2.2.2.2.2.2.2.2.2.2.2.exp, .sl (.int .i64) d.2.2.2.2.2.2.2.2.2.2.2.2.2.2.2.2.2.text .no, .sl .raw d.2.2.2.2.2.2.2.2.2.2.2.2.2.2.2.2.2.items .no], .tok, .tok]⟩
def wQ {R:Type} (K:Ex→St→Option R) (q0:Int) (q1:Int) (q2:Int) (q3:aj) (q4:Bool) (q5:Raw) (q6:Int) (q7:Int) (q8:Int) (q9:aj) (WN:Int) (q11:Int) (q12:Int) (q13:aj) (q14:List aj) (q15:List Json) (q16:Raw):Option R:=K (.exit 3) ⟨.undef :: .int .i64 q0 :: .ptr 0 0 :: .undef :: .ptr 1 0 :: .int .i64 q1 :: .ptr 2 0 :: .int .i64 q2 :: .ptr 3 0 :: .str q3 :: .bool q4::U 94 ([]), [.cells [.int .i64 q5.kind, .int .i64 q5.aB, .int .i64 q5.exp, .sl (.int .i64) q5.text .no, .sl .raw q5.items .no], .cells [.int .i64 q6, .int .i64 q7, .int .i64 q8, .str q9, .cM, .cM], .cells [.int .i64 WN, .int .i64 q11, .int .i64 q12, .str q13, .sl .str q14 (.own 4), .sl .json q15 (.own 5)], .cells [.int .i64 q16.kind, .int .i64 q16.aB, .int .i64 q16.exp, .sl (.int .i64) q16.text .no, .sl .raw q16.items .no], .tok, .tok]⟩
def xV {R:Type} (K:Ex→St→Option R) (rc:jH→Option R) (d:jH):Option R:=sS (fun z0 z1 z2 z3 z4 z5 z6 z7 z8 z9 PT vb z12 Rl z14 z15 z16 z17=>rc (z0,z1,z2,z3,z4,z5,z6,z7,z8,z9,PT,vb,z12,Rl,z14,z15,z16,z17)) d.1 d.2.1 d.2.2.1 d.2.2.2.1 d.2.2.2.2.1 d.2.2.2.2.2.1 d.2.2.2.2.2.2.1 d.2.2.2.2.2.2.2.1 d.2.2.2.2.2.2.2.2.1 d.2.2.2.2.2.2.2.2.2.1 d.2.2.2.2.2.2.2.2.2.2.1 d.2.2.2.2.2.2.2.2.2.2.2.1 d.2.2.2.2.2.2.2.2.2.2.2.2.1 d.2.2.2.2.2.2.2.2.2.2.2.2.2.1 d.2.2.2.2.2.2.2.2.2.2.2.2.2.2.1 d.2.2.2.2.2.2.2.2.2.2.2.2.2.2.2.1 d.2.2.2.2.2.2.2.2.2.2.2.2.2.2.2.2.1 d.2.2.2.2.2.2.2.2.2.2.2.2.2.2.2.2.2 (wQ K)
def nf {R:Type} (K:Ex→St→Option R) (n:Nat) (d:jH):Option R:=bz n d.1 d.2.1 d.2.2.1 d.2.2.2.1 d.2.2.2.2.1 d.2.2.2.2.2.1 d.2.2.2.2.2.2.1 d.2.2.2.2.2.2.2.1 d.2.2.2.2.2.2.2.2.1 d.2.2.2.2.2.2.2.2.2.1 d.2.2.2.2.2.2.2.2.2.2.1 d.2.2.2.2.2.2.2.2.2.2.2.1 d.2.2.2.2.2.2.2.2.2.2.2.2.1 d.2.2.2.2.2.2.2.2.2.2.2.2.2.1 d.2.2.2.2.2.2.2.2.2.2.2.2.2.2.1 d.2.2.2.2.2.2.2.2.2.2.2.2.2.2.2.1 d.2.2.2.2.2.2.2.2.2.2.2.2.2.2.2.2.1 d.2.2.2.2.2.2.2.2.2.2.2.2.2.2.2.2.2 (wQ K)
abbrev jI:List ck := .leaf (.undef) :: .leaf (.int .i64) :: .leaf (.ptr 0 0) :: .leaf (.undef) :: .leaf (.ptr 1 0) :: .leaf (.int .i64) :: .leaf (.ptr 2 0) :: .leaf (.int .i64) :: .leaf (.ptr 3 0) :: .leaf (.str) :: .leaf (.bool) :: .leaf (.int .i64)::PU 93 ([])
abbrev jJ:List aN := [.cells [.int .i64, .int .i64, .int .i64, .sl (.int .i64), .sl .raw], .cells [.int .i64, .int .i64, .int .i64, .str, .cM, .cM], .cells [.int .i64, .int .i64, .int .i64, .str, .M8 .str 4, .M8 .json 5], .cells [.int .i64, .int .i64, .int .i64, .sl (.int .i64), .sl .raw], .tok, .tok]
def xW (x:ck.aH jI) (y:aN.aH jJ):Nat:=(Int.natAbs x.2.1+Int.natAbs x.2.2.2.2.2.1+Int.natAbs x.2.2.2.2.2.2.2.1+List.length x.2.2.2.2.2.2.2.2.2.1+Int.natAbs x.2.2.2.2.2.2.2.2.2.2.2.1+Raw.fu (⟨y.1.1,y.1.2.1,y.1.2.2.1,y.1.2.2.2.1,y.1.2.2.2.2.1⟩:Raw)+Int.natAbs y.2.1.1+Int.natAbs y.2.1.2.1+Int.natAbs y.2.1.2.2.1+List.length y.2.1.2.2.2.1+Int.natAbs y.2.2.1.1+Int.natAbs y.2.2.1.2.1+Int.natAbs y.2.2.1.2.2.1+List.length y.2.2.1.2.2.2.1+List.length y.2.2.1.2.2.2.2.1+List.length y.2.2.1.2.2.2.2.2.1+Raw.fu (⟨y.2.2.2.1.1,y.2.2.2.1.2.1,y.2.2.2.1.2.2.1,y.2.2.2.1.2.2.2.1,y.2.2.2.1.2.2.2.2.1⟩:Raw)+64)
def xX (x:ck.aH jI) (y:aN.aH jJ):jH:=(x.2.1,x.2.2.2.2.2.1,x.2.2.2.2.2.2.2.1,x.2.2.2.2.2.2.2.2.2.1,x.2.2.2.2.2.2.2.2.2.2.1,x.2.2.2.2.2.2.2.2.2.2.2.1,(⟨y.1.1,y.1.2.1,y.1.2.2.1,y.1.2.2.2.1,y.1.2.2.2.2.1⟩:Raw),y.2.1.1,y.2.1.2.1,y.2.1.2.2.1,y.2.1.2.2.2.1,y.2.2.1.1,y.2.2.1.2.1,y.2.2.1.2.2.1,y.2.2.1.2.2.2.1,y.2.2.1.2.2.2.2.1,y.2.2.1.2.2.2.2.2.1,(⟨y.2.2.2.1.1,y.2.2.2.1.2.1,y.2.2.2.1.2.2.1,y.2.2.2.1.2.2.2.1,y.2.2.2.1.2.2.2.2.1⟩:Raw))
def wR {R:Type} (L:iT R):ck.aH jI→aN.aH jJ→(Ex→St→Option R)→Option R:=fun x y K=>L (xW x y) x.2.1 x.2.2.2.2.2.1 x.2.2.2.2.2.2.2.1 x.2.2.2.2.2.2.2.2.2.1 x.2.2.2.2.2.2.2.2.2.2.1 x.2.2.2.2.2.2.2.2.2.2.2.1 (⟨y.1.1,y.1.2.1,y.1.2.2.1,y.1.2.2.2.1,y.1.2.2.2.2.1⟩:Raw) y.2.1.1 y.2.1.2.1 y.2.1.2.2.1 y.2.1.2.2.2.1 y.2.2.1.1 y.2.2.1.2.1 y.2.2.1.2.2.1 y.2.2.1.2.2.2.1 y.2.2.1.2.2.2.2.1 y.2.2.1.2.2.2.2.2.1 (⟨y.2.2.2.1.1,y.2.2.2.1.2.1,y.2.2.2.1.2.2.1,y.2.2.2.1.2.2.2.1,y.2.2.2.1.2.2.2.2.1⟩:Raw) (wQ K)
def lx {R:Type} (bU:gu R) (aD:dh R) (bz:iT R) (fC:Int→Int→Int→Raw→Int→Int→Int→aj→Int→Int→Int→aj→(List aj)→(List Json)→Option R) (x7:Int) (x8:Int) (x9:Int) (BD:Raw) (WO:Int) (x12:Int) (TO:Int) (UE:aj) (pc:Int) (sA:Int) (lX:Int) (sB:aj) (Bz:List aj) (zG:List Json) (e0:Int→Int→Int→aj→Int→Int→Int→aj→(List aj)→(List Json)→Option R):Option R :=
 bif (decide (x9<(BD.items.length:Int)))then (bif (decide (x9<(12:Int)))then (bif (decide (x7<(16:Int)))then (cw (decide ((0:Int)≤x9)&&decide (x9<BD.items.length)) (cw (decide ((0:Int)≤(min (((BD.items.getD x9.toNat (Ty.bY .raw)).text).length:Int) 8))&&decide ((min (((BD.items.getD x9.toNat (Ty.bY .raw)).text).length:Int) 8)≤((BD.items.getD x9.toNat (Ty.bY .raw)).text).length)) (cw (decide ((0:Int)≤(min (((BD.items.getD x9.toNat (Ty.bY .raw)).text).length:Int) 8))) (bU ((((BD.items.getD x9.toNat (Ty.bY .raw)).text).drop 0).take ((min (((BD.items.getD x9.toNat (Ty.bY .raw)).text).length:Int) 8).toNat - 0)) (fun Tr=>bif (x8==7)then (bz (Int.natAbs x7+Int.natAbs x8+Int.natAbs x9+List.length Tr+Int.natAbs 0+Raw.fu (⟨BD.kind,BD.aB,BD.exp,BD.text,BD.items⟩:Raw)+Int.natAbs WO+Int.natAbs x12+Int.natAbs TO+List.length UE+Int.natAbs pc+Int.natAbs sA+Int.natAbs lX+List.length sB+List.length Bz+List.length zG+Raw.fu (⟨(BD.items.getD x9.toNat (Ty.bY .raw)).kind,(BD.items.getD x9.toNat (Ty.bY .raw)).aB,(BD.items.getD x9.toNat (Ty.bY .raw)).exp,(BD.items.getD x9.toNat (Ty.bY .raw)).text,(BD.items.getD x9.toNat (Ty.bY .raw)).items⟩:Raw)+64) x7 x8 x9 Tr false 0 (⟨BD.kind,BD.aB,BD.exp,BD.text,BD.items⟩:Raw) WO x12 TO UE pc sA lX sB Bz zG (⟨(BD.items.getD x9.toNat (Ty.bY .raw)).kind,(BD.items.getD x9.toNat (Ty.bY .raw)).aB,(BD.items.getD x9.toNat (Ty.bY .raw)).exp,(BD.items.getD x9.toNat (Ty.bY .raw)).text,(BD.items.getD x9.toNat (Ty.bY .raw)).items⟩:Raw) (fun Ov Rs Rt Xh Wq NI Xk Zo Zp Zq Xl Zr Zs y55 Wr Ws Wu=>bif Wq then (fC Ov Rs (IntKind.i64.wrap (Rt+1)) (⟨NI.kind,NI.aB,NI.exp,NI.text,NI.items⟩:Raw) Xk Zo Zp Zq Xl Zr Zs y55 Wr Ws)else (cw (decide ((Wr.length+1)*16≤140737488355328)) (aD (⟨Wu.kind,Wu.aB,Wu.exp,Wu.text,Wu.items⟩:Raw) (IntKind.i64.wrap (Ov+1)) (fun Tv=>cw (decide ((Ws.length+1)*88≤140737488355328)) (fC Ov Rs (IntKind.i64.wrap (Rt+1)) (⟨NI.kind,NI.aB,NI.exp,NI.text,NI.items⟩:Raw) Xk Zo Zp Zq Xl Zr Zs y55 (Wr++([Xh]:List aj)) (Ws++([(⟨Tv.kind,⟨Tv.num.aB,Tv.num.exp⟩,Tv.text,Tv.names,Tv.items⟩:Json)]:List Json))))))))else (aD (⟨(BD.items.getD x9.toNat (Ty.bY .raw)).kind,(BD.items.getD x9.toNat (Ty.bY .raw)).aB,(BD.items.getD x9.toNat (Ty.bY .raw)).exp,(BD.items.getD x9.toNat (Ty.bY .raw)).text,(BD.items.getD x9.toNat (Ty.bY .raw)).items⟩:Raw) (IntKind.i64.wrap (x7+1)) (fun UB=>cw (decide ((zG.length+1)*88≤140737488355328)) (fC x7 x8 (IntKind.i64.wrap (x9+1)) (⟨BD.kind,BD.aB,BD.exp,BD.text,BD.items⟩:Raw) WO x12 TO UE pc sA lX sB Bz (zG++([(⟨UB.kind,⟨UB.num.aB,UB.num.exp⟩,UB.text,UB.names,UB.items⟩:Json)]:List Json))))))))))else (e0 WO x12 TO UE pc sA lX sB Bz zG))else (e0 WO x12 TO UE pc sA lX sB Bz zG))else (e0 WO x12 TO UE pc sA lX sB Bz zG)
def bl {R:Type} (aD:dh R):ku R
 | 0,_,_,_,_,_,_,_,_,_,_,_,_,_,_,_=>none
 | n+1,kN,kO,lN,th,BT,Dk,Ks,Kt,Ku,Kv,zh,Fp,MI,MJ,e0=>lx bU aD bz (fun kN kO lN th BT Dk Ks Kt Ku Kv zh Fp MI MJ=>bl aD n kN kO lN th BT Dk Ks Kt Ku Kv zh Fp MI MJ e0) kN kO lN th BT Dk Ks Kt Ku Kv zh Fp MI MJ e0
def sU:Hint := { live := [1,2,4,5,6,7],own := [],rows := [],cells := [(2,4, .str,false),(2,5, .json,false)],drop := [],out := [4,6] }
abbrev jK:Type:=Int × Int × Int × Raw × Int × Int × Int × aj × Int × Int × Int × aj × (List aj) × (List Json)
def qw:jK→St:=fun d=>⟨.undef :: .int .i64 d.1 :: .ptr 0 0 :: .undef :: .ptr 1 0 :: .int .i64 d.2.1 :: .ptr 2 0 :: .int .i64 d.2.2.1::U 97 ([]), [.cells [.int .i64 d.2.2.2.1.kind, .int .i64 d.2.2.2.1.aB, .int .i64 d.2.2.2.1.exp, .sl (.int .i64) d.2.2.2.1.text .no, .sl .raw d.2.2.2.1.items .no], .cells [.int .i64 d.2.2.2.2.1, .int .i64 d.2.2.2.2.2.1, .int .i64 d.2.2.2.2.2.2.1, .str d.2.2.2.2.2.2.2.1, .cM, .cM], .cells [.int .i64 d.2.2.2.2.2.2.2.2.1, .int .i64 d.2.2.2.2.2.2.2.2.2.1, .int .i64 d.2.2.2.2.2.2.2.2.2.2.1, .str d.2.2.2.2.2.2.2.2.2.2.2.1, .sl .str d.2.2.2.2.2.2.2.2.2.2.2.2.1 (.own 3), .sl .json d.2.2.2.2.2.2.2.2.2.2.2.2.2 (.own 4)], .tok, .tok]⟩
def wS {R:Type} (K:Ex→St→Option R) (q0:Int) (q1:Int) (q2:Int) (q3:aj) (q4:Int) (q5:Int) (q6:Int) (q7:aj) (q8:List aj) (q9:List Json):Option R:=K (.exit 1) ⟨U 4 (.ptr 0 0 :: .undef :: .ptr 1 0::U 98 ([])), [.cells [.int .i64 q0, .int .i64 q1, .int .i64 q2, .str q3, .cM, .cM], .cells [.int .i64 q4, .int .i64 q5, .int .i64 q6, .str q7, .sl .str q8 (.own 2), .sl .json q9 (.own 3)], .tok, .tok]⟩
def xY {R:Type} (bU:gu R) (aD:dh R) (bz:iT R) (K:Ex→St→Option R) (rc:jK→Option R) (d:jK):Option R:=lx bU aD bz (fun z0 z1 z2 z3 z4 z5 z6 z7 z8 z9 PT vb z12 Rl=>rc (z0,z1,z2,z3,z4,z5,z6,z7,z8,z9,PT,vb,z12,Rl)) d.1 d.2.1 d.2.2.1 d.2.2.2.1 d.2.2.2.2.1 d.2.2.2.2.2.1 d.2.2.2.2.2.2.1 d.2.2.2.2.2.2.2.1 d.2.2.2.2.2.2.2.2.1 d.2.2.2.2.2.2.2.2.2.1 d.2.2.2.2.2.2.2.2.2.2.1 d.2.2.2.2.2.2.2.2.2.2.2.1 d.2.2.2.2.2.2.2.2.2.2.2.2.1 d.2.2.2.2.2.2.2.2.2.2.2.2.2 (wS K)
def ng {R:Type} (aD:dh R) (K:Ex→St→Option R) (n:Nat) (d:jK):Option R:=bl aD n d.1 d.2.1 d.2.2.1 d.2.2.2.1 d.2.2.2.2.1 d.2.2.2.2.2.1 d.2.2.2.2.2.2.1 d.2.2.2.2.2.2.2.1 d.2.2.2.2.2.2.2.2.1 d.2.2.2.2.2.2.2.2.2.1 d.2.2.2.2.2.2.2.2.2.2.1 d.2.2.2.2.2.2.2.2.2.2.2.1 d.2.2.2.2.2.2.2.2.2.2.2.2.1 d.2.2.2.2.2.2.2.2.2.2.2.2.2 (wS K)
abbrev jL:List ck := .leaf (.undef) :: .leaf (.int .i64) :: .leaf (.ptr 0 0) :: .leaf (.undef) :: .leaf (.ptr 1 0) :: .leaf (.int .i64) :: .leaf (.ptr 2 0) :: .leaf (.int .i64)::PU 97 ([])
abbrev jM:List aN := [.cells [.int .i64, .int .i64, .int .i64, .sl (.int .i64), .sl .raw], .cells [.int .i64, .int .i64, .int .i64, .str, .cM, .cM], .cells [.int .i64, .int .i64, .int .i64, .str, .M8 .str 3, .M8 .json 4], .tok, .tok]
def xZ (x:ck.aH jL) (y:aN.aH jM):Nat:=(Int.natAbs x.2.1+Int.natAbs x.2.2.2.2.2.1+Int.natAbs x.2.2.2.2.2.2.2.1+Raw.fu (⟨y.1.1,y.1.2.1,y.1.2.2.1,y.1.2.2.2.1,y.1.2.2.2.2.1⟩:Raw)+Int.natAbs y.2.1.1+Int.natAbs y.2.1.2.1+Int.natAbs y.2.1.2.2.1+List.length y.2.1.2.2.2.1+Int.natAbs y.2.2.1.1+Int.natAbs y.2.2.1.2.1+Int.natAbs y.2.2.1.2.2.1+List.length y.2.2.1.2.2.2.1+List.length y.2.2.1.2.2.2.2.1+List.length y.2.2.1.2.2.2.2.2.1+64)
def ya (x:ck.aH jL) (y:aN.aH jM):jK:=(x.2.1,x.2.2.2.2.2.1,x.2.2.2.2.2.2.2.1,(⟨y.1.1,y.1.2.1,y.1.2.2.1,y.1.2.2.2.1,y.1.2.2.2.2.1⟩:Raw),y.2.1.1,y.2.1.2.1,y.2.1.2.2.1,y.2.1.2.2.2.1,y.2.2.1.1,y.2.2.1.2.1,y.2.2.1.2.2.1,y.2.2.1.2.2.2.1,y.2.2.1.2.2.2.2.1,y.2.2.1.2.2.2.2.2.1)
def wT {R:Type} (L:ku R):ck.aH jL→aN.aH jM→(Ex→St→Option R)→Option R:=fun x y K=>L (xZ x y) x.2.1 x.2.2.2.2.2.1 x.2.2.2.2.2.2.2.1 (⟨y.1.1,y.1.2.1,y.1.2.2.1,y.1.2.2.2.1,y.1.2.2.2.2.1⟩:Raw) y.2.1.1 y.2.1.2.1 y.2.1.2.2.1 y.2.1.2.2.2.1 y.2.2.1.1 y.2.2.1.2.1 y.2.2.1.2.2.1 y.2.2.1.2.2.2.1 y.2.2.1.2.2.2.2.1 y.2.2.1.2.2.2.2.2.1 (wS K)
def p9 (R:Type) (bz:iT R) (bl:ku R):Nat→Option (Hint × eJ R):=fun i=>match i with
 | 11=>some (sU,(fQ jL jM (wT bl) pr))
 | 18=>some (sT,(fQ jI jJ (wR bz) pr))
 | _=>none

theorem F4 {R:Type} (bU:gu R) (di:jY R) (aD:dh R) (eS:mM R) (bz:iT R) (bl:ku R) (K:Ex→St→Option R) (rc:St→Option R) (d:jH):roundOf tt (fV (oD bU di aD eS)) (p9 R bz bl) 0 ((br (bb Tryz.f16)).getD 1 .skip) sT (qv d) rc K=xV K (fun d=>rc (qv d)) d:=by kernel_rfl
theorem Ej {R:Type} (K:Ex→St→Option R) (n:Nat) (d:jH):nf K (n+1) d=xV K (nf K n) d:=by kernel_rfl
theorem Ek {R:Type} (K:Ex→St→Option R) (d:jH):nf K 0 d=none:=by kernel_rfl
theorem F5 (x:ck.aH jI) (y:aN.aH jJ):(⟨ck.cz jI x,aN.cz jJ y⟩:St)=qv (xX x y):=by kernel_rfl
theorem F6 {R:Type} (x:ck.aH jI) (y:aN.aH jJ) (K:Ex→St→Option R):wR (bz) x y K=nf K (xW x y) (xX x y):=by kernel_rfl
theorem IG {R:Type} (aD:dh R) (other:eJ R) (ho:oa tt (fV (oD bU di aD eS)) (p9 R bz (bl aD)) 0 ((br (bb Tryz.f16)).getD 1 .skip) sT other):oa tt (fV (oD bU di aD eS)) (p9 R bz (bl aD)) 0 ((br (bb Tryz.f16)).getD 1 .skip) sT (fQ jI jJ (wR (bz)) other) :=
 gd (A:=nf) ho (jt qv (xV) (nf) (Ek) (F4 bU di aD eS bz (bl aD)) (Ej)) xW xX F5 (F6)

theorem F7 {R:Type} (bU:gu R) (di:jY R) (aD:dh R) (eS:mM R) (bz:iT R) (bl:ku R) (K:Ex→St→Option R) (rc:St→Option R) (d:jK):roundOf tt (fV (oD bU di aD eS)) (p9 R bz bl) 0 ((br (bb Tryz.f16)).getD 0 .skip) sU (qw d) rc K=xY bU aD bz K (fun d=>rc (qw d)) d:=by kernel_rfl
theorem El {R:Type} (aD:dh R) (K:Ex→St→Option R) (n:Nat) (d:jK):ng aD K (n+1) d=xY bU aD bz K (ng aD K n) d:=by kernel_rfl
theorem Em {R:Type} (aD:dh R) (K:Ex→St→Option R) (d:jK):ng aD K 0 d=none:=by kernel_rfl
theorem F8 (x:ck.aH jL) (y:aN.aH jM):(⟨ck.cz jL x,aN.cz jM y⟩:St)=qw (ya x y):=by kernel_rfl
theorem F9 {R:Type} (aD:dh R) (x:ck.aH jL) (y:aN.aH jM) (K:Ex→St→Option R):wT (bl aD) x y K=ng aD K (xZ x y) (ya x y):=by kernel_rfl
theorem IH {R:Type} (aD:dh R) (other:eJ R) (ho:oa tt (fV (oD bU di aD eS)) (p9 R bz (bl aD)) 0 ((br (bb Tryz.f16)).getD 0 .skip) sU other):oa tt (fV (oD bU di aD eS)) (p9 R bz (bl aD)) 0 ((br (bb Tryz.f16)).getD 0 .skip) sU (fQ jL jM (wT (bl aD)) other) :=
 gd (A:=ng aD) ho (jt qw (xY bU aD bz) (ng aD) (Em aD) (F7 bU di aD eS bz (bl aD)) (El aD)) xZ ya F8 (F9 aD)

def mV {R:Type} (bU:gu R) (di:jY R) (eS:mM R) (bl:ku R) (x1:Raw) (x2:Int) (k0:Json→Option R):Option R :=
 eS x1.kind 7 (fun y3=>bif ((IntKind.i64.wrap (1+y3))==4)then (di x1.aB x1.exp (fun y4=>k0 (⟨(IntKind.i64.wrap (1+y3)),⟨y4.aB,y4.exp⟩,([]:aj),([]:List aj),([]:List Json)⟩:Json)))else (bif ((IntKind.i64.wrap (1+y3))==5)then (cw (decide ((0:Int)≤(min (x1.text.length:Int) 20))&&decide ((min (x1.text.length:Int) 20)≤x1.text.length)) (cw (decide ((0:Int)≤(min (x1.text.length:Int) 20))) (bU ((x1.text.drop 0).take ((min (x1.text.length:Int) 20).toNat - 0)) (fun y5=>k0 (⟨(IntKind.i64.wrap (1+y3)),⟨0,0⟩,y5,([]:List aj),([]:List Json)⟩:Json)))))else (let j71:=fun (z6:Bool)=>bif z6 then (bl (Int.natAbs x2+Int.natAbs (IntKind.i64.wrap (1+y3))+Int.natAbs 0+Raw.fu (⟨x1.kind,x1.aB,x1.exp,x1.text,x1.items⟩:Raw)+Int.natAbs 0+Int.natAbs 0+Int.natAbs 0+List.length ([]:aj)+Int.natAbs (IntKind.i64.wrap (1+y3))+Int.natAbs 0+Int.natAbs 0+List.length ([]:aj)+List.length ([]:List aj)+List.length ([]:List Json)+64) x2 (IntKind.i64.wrap (1+y3)) 0 (⟨x1.kind,x1.aB,x1.exp,x1.text,x1.items⟩:Raw) 0 0 0 ([]:aj) (IntKind.i64.wrap (1+y3)) 0 0 ([]:aj) ([]:List aj) ([]:List Json) (fun y61 y62 y63 y64 y65 y66 y67 y68 y69 y70=>k0 (⟨y65,⟨y66,y67⟩,y68,y69,y70⟩:Json)))else (k0 (⟨(IntKind.i64.wrap (1+y3)),⟨0,0⟩,([]:aj),([]:List aj),([]:List Json)⟩:Json)); bif ((IntKind.i64.wrap (1+y3))==6)then (j71 ((IntKind.i64.wrap (1+y3))==6))else (j71 ((IntKind.i64.wrap (1+y3))==7)))))
def Fq {R:Type} (aD:dh R):dh R:=fun x1 x2 k0=>mV bU di eS (bl aD) x1 x2 k0
theorem P3 {R:Type} (bU:gu R) (di:jY R) (aD:dh R) (eS:mM R) (bz:iT R) (bl:ku R):gR (R:=R) tt (oD bU di aD eS) (p9 R bz bl) false Tryz.f16 (bb Tryz.f16) oB oC (jg (mV bU di eS bl)):=fun x y k=>by kernel_rfl
theorem Kz (R:Type) (aD:dh R) (uE:aF.Spec.Ok Tryz.prog 16 (bj oB oC (jg aD) aZ)):∀a∈br (bb Tryz.f16),lM tt (fV (oD bU di aD eS)) (p9 R bz (bl aD)) 0 a:=by
 refine kZ 2 (by kernel_rfl) fun i hi => ?_
 match i,hi with
 | 0,_=>exact fm (by kernel_rfl) (IH aD _ ia)
 | 1,_=>exact fm (by kernel_rfl) (IG aD _ ia)
 | n+2,hi=>omega
theorem KA (R:Type) (aD:dh R) (uE:aF.Spec.Ok Tryz.prog 16 (bj oB oC (jg aD) aZ)):rR Tryz.prog 16 (J2 (Fq aD)):=cQ TT mixed (NL aD uE) rfl rfl rfl rfl (Kz R aD uE) (P3 bU di aD eS bz (bl aD))
def iU {R:Type}:Nat→dh R
 | 0,_,_,_=>none
 | n+1,kN,kO,k0'=>Fq (iU n) kN kO k0'
theorem WQ {R:Type} (n:Nat):iU (R:=R) (n+1)=Fq (iU n):=by kernel_rfl
theorem MK (R:Type):∀n,aF.Spec.Ok Tryz.prog 16 (bj oB oC (jg (iU (R:=R) n)) aZ) :=
 vp (run:=fun n=>jg (iU (R:=R) n)) (fun x y k=>by kernel_rfl) fun n hyp=>KA R (iU n) hyp aZ (aK _)
def mc {R:Type}:dh R:=fun x1 x2 k0=>iU (Raw.depth x1+2) x1 x2 k0
theorem ML (R:Type):jg (R:=R) mc=fun x y k=>jg (iU (Raw.depth (⟨x.1.1,x.1.2.1,x.1.2.2.1,x.1.2.2.2.1,x.1.2.2.2.2.1⟩:Raw)+2)) x y k:=by kernel_rfl
theorem MN (R:Type) (other:aF.Spec R) (ho:aF.Spec.Ok Tryz.prog 16 other):aF.Spec.Ok Tryz.prog 16 (bj oB oC (jg mc) other) :=
 AK (Cl (run:=fun n=>jg (iU (R:=R) n)) (fun x y=>(Raw.depth (⟨x.1.1,x.1.2.1,x.1.2.2.1,x.1.2.2.2.1,x.1.2.2.2.2.1⟩:Raw)+2)) ho (MK R)) (ML R)

end Go.Proofs.YtmlkkgfenfdndaaGreatDoor

/-
 Functions of the program as pure Lean functions, and the ties; printed by wip/tools/emit.py.
-/
set_option maxRecDepth 100000
namespace Go.Proofs.YtmlkkgfenfdndaaGreatDoor
open Go Go.aF

/-! ### humpyard/json.Parse -/
abbrev qX (R:Type):Type:=aj→(Json→Int→Int→Option R)→Option R
abbrev Dz:List ck := [.leaf (.str)]
abbrev DA:List aN := []
def Gy {R:Type} (fn:qX R):ck.aH Dz→aN.aH DA→(V→aG→Option R)→Option R:=fun x y k=>fn x.1 (fun q0 q1 q2=>k (.tuple [.agg [.int .i64 q0.kind, .int .i64 q0.num.aB, .int .i64 q0.num.exp, .str q0.text, .sl .str q0.names .no, .sl .json q0.items .no], .int .i64 q1, .int .i64 q2]) [])
def II {R:Type} (fn:qX R):aF.Spec R→aF.Spec R:=bj Dz DA (Gy fn)
def IJ {R:Type} (ak:bI R) (cK:aw R) (km:qW R):List (uI R) := [(43,false,(jF ak aZ)),(42,false,(ux cK aZ)),(25,true,(IE km aZ))]
theorem MO {R:Type}:eU (R:=R) Tryz.prog (IJ ak cK km) := .f (kn R _ (aK _)) rfl <| .f (Ao R _ (aK _)) rfl <| .p (Ky R _ (aK _)) <| .n
def Ap {R:Type} (ak:bI R) (cK:aw R) (km:qW R) (x1:aj) (k0:Json→Int→Int→Option R):Option R :=
 km x1 (fun y2 y3 y4=>bif (y3 != 0)then (k0 (⟨0,⟨0,0⟩,([]:aj),([]:List aj),([]:List Json)⟩:Json) y3 y4)else (cK 1 y2 0 (fun y5 y6 y7=>let j12:=fun (PT:List Token) (vb:Int)=>bif (vb != 0)then (cw (decide ((0:Int)<PT.length)) (k0 (⟨0,⟨0,0⟩,([]:aj),([]:List aj),([]:List Json)⟩:Json) vb ((PT.getD 0 (Ty.bY .token)).at_)))else (k0 (⟨y5.kind,⟨y5.num.aB,y5.num.exp⟩,y5.text,y5.names,y5.items⟩:Json) 0 0); cw (decide ((0:Int)<y6.length)) (bif ((y6.getD 0 (Ty.bY .token)).kind != 5)then (ak 40 y6 y7 (fun y8 y9=>j12 y8 y9))else (j12 y6 y7)))))
def kv {R:Type}:qX R:=fun x1 k0=>Ap ak cK km x1 k0
theorem NM {R:Type} (ak:bI R) (cK:aw R) (km:qW R):gR (R:=R) tt (IJ ak cK km) xw false Tryz.f20 (bb Tryz.f20) Dz DA (Gy (Ap ak cK km)):=fun x y k=>by kernel_rfl
theorem KB (R:Type):rR Tryz.prog 20 (II (kv (R:=R))):=cQ TT mixed (MO (R:=R)) rfl rfl rfl rfl dV (NM ak cK km)

/-! ### slices.Equal[[]string,string] -/
abbrev fj (R:Type):Type:=(List aj)→(List aj)→(Bool→Option R)→Option R
abbrev mK:List ck := [.leaf (.sl .str), .leaf (.sl .str)]
abbrev mL:List aN := []
def qN {R:Type} (fn:fj R):ck.aH mK→aN.aH mL→(V→aG→Option R)→Option R:=fun x y k=>fn x.1 x.2.1 (fun q0=>k (.bool q0) [])
def rP {R:Type} (fn:fj R):aF.Spec R→aF.Spec R:=bj mK mL (qN fn)
abbrev eD (R:Type):Type:=Nat→(List aj)→(List aj)→Int→Int→(Option R)→(Bool→Option R)→Option R
def gX {R:Type} (fC:(List aj)→(List aj)→Int→Int→Option R) (x3:List aj) (x4:List aj) (x5:Int) (x6:Int) (e0:Option R) (e1:Bool→Option R):Option R :=
 bif (decide (x6<x5))then (cw (decide ((0:Int)≤x6)&&decide (x6<x3.length)) (cw (decide ((0:Int)≤x6)&&decide (x6<x4.length)) (bif (!((x3.getD x6.toNat (Ty.bY .str))==(x4.getD x6.toNat (Ty.bY .str))))then (e1 false)else (fC x3 x4 x5 (IntKind.i64.wrap (x6+1))))))else (e0)
def aQ {R:Type}:eD R
 | 0,_,_,_,_,_,_=>none
 | n+1,kN,kO,lN,th,e0,e1=>gX (fun kN kO lN th=>aQ n kN kO lN th e0 e1) kN kO lN th e0 e1
def gY:Hint := { live := [0,1,12,13],own := [],rows := [],cells := [],drop := [],out := [4] }
abbrev dp:Type:=(List aj) × (List aj) × Int × Int
def gq:dp→St:=fun d=>⟨.sl .str d.1 .no :: .sl .str d.2.1 .no::U 10 (.int .i64 d.2.2.1 :: .int .i64 d.2.2.2::U 12 ([])), []⟩
def kz {R:Type} (K:Ex→St→Option R):Option R:=K (.exit 0) ⟨U 26 ([]), []⟩
def kA {R:Type} (K:Ex→St→Option R) (q0:Bool):Option R:=K (.ret) ⟨U 4 (.bool q0::U 21 ([])), []⟩
def kU {R:Type} (K:Ex→St→Option R) (rc:dp→Option R) (d:dp):Option R:=gX (fun z0 z1 z2 z3=>rc (z0,z1,z2,z3)) d.1 d.2.1 d.2.2.1 d.2.2.2 (kz K) (kA K)
def eQ {R:Type} (K:Ex→St→Option R) (n:Nat) (d:dp):Option R:=aQ n d.1 d.2.1 d.2.2.1 d.2.2.2 (kz K) (kA K)
abbrev dq:List ck := .leaf (.sl .str) :: .leaf (.sl .str)::PU 10 (.leaf (.int .i64) :: .leaf (.int .i64)::PU 12 ([]))
abbrev dt:List aN := []
def kV (x:ck.aH dq) (y:aN.aH dt):Nat:=(List.length x.1+List.length x.2.1+Int.natAbs x.2.2.2.2.2.2.2.2.2.2.2.2.1+Int.natAbs x.2.2.2.2.2.2.2.2.2.2.2.2.2.1+64)
def kW (x:ck.aH dq) (y:aN.aH dt):dp:=(x.1,x.2.1,x.2.2.2.2.2.2.2.2.2.2.2.2.1,x.2.2.2.2.2.2.2.2.2.2.2.2.2.1)
def kB {R:Type} (L:eD R):ck.aH dq→aN.aH dt→(Ex→St→Option R)→Option R:=fun x y K=>L (kV x y) x.1 x.2.1 x.2.2.2.2.2.2.2.2.2.2.2.2.1 x.2.2.2.2.2.2.2.2.2.2.2.2.2.1 (kz K) (kA K)
def gP (R:Type) (aQ:eD R):Nat→Option (Hint × eJ R):=fun i=>match i with
 | 4=>some (gY,(fQ dq dt (kB aQ) pr))
 | _=>none

theorem vj {R:Type} (aQ:eD R) (K:Ex→St→Option R) (rc:St→Option R) (d:dp):roundOf tt (fV []) (gP R aQ) 0 ((br (bb Tryz.f44)).getD 0 .skip) gY (gq d) rc K=kU K (fun d=>rc (gq d)) d:=by kernel_rfl
theorem tR {R:Type} (K:Ex→St→Option R) (n:Nat) (d:dp):eQ K (n+1) d=kU K (eQ K n) d:=by kernel_rfl
theorem tS {R:Type} (K:Ex→St→Option R) (d:dp):eQ K 0 d=none:=by kernel_rfl
theorem vk (x:ck.aH dq) (y:aN.aH dt):(⟨ck.cz dq x,aN.cz dt y⟩:St)=gq (kW x y):=by kernel_rfl
theorem vl {R:Type} (x:ck.aH dq) (y:aN.aH dt) (K:Ex→St→Option R):kB (aQ) x y K=eQ K (kV x y) (kW x y):=by kernel_rfl
theorem wU {R:Type} (other:eJ R) (ho:oa tt (fV []) (gP R aQ) 0 ((br (bb Tryz.f44)).getD 0 .skip) gY other):oa tt (fV []) (gP R aQ) 0 ((br (bb Tryz.f44)).getD 0 .skip) gY (fQ dq dt (kB (aQ)) other) :=
 gd (A:=eQ) ho (jt gq (kU) (eQ) (tS) (vj aQ) (tR)) kV kW vk (vl)

def rQ {R:Type} (aQ:eD R) (x1:List aj) (x2:List aj) (k0:Bool→Option R):Option R :=
 bif ((x1.length:Int) != (x2.length:Int))then (k0 false)else (aQ (List.length x1+List.length x2+Int.natAbs (x1.length:Int)+Int.natAbs 0+64) x1 x2 (x1.length:Int) 0 (k0 true) (fun y7=>k0 y7))
def cg {R:Type}:fj R:=fun x1 x2 k0=>rQ aQ x1 x2 k0
theorem zu {R:Type} (aQ:eD R):gR (R:=R) tt [] (gP R aQ) false Tryz.f44 (bb Tryz.f44) mK mL (qN (rQ aQ)):=fun x y k=>by kernel_rfl
theorem xa (R:Type):∀a∈br (bb Tryz.f44),lM tt (fV []) (gP R aQ) 0 a:=by
 refine kZ 1 (by kernel_rfl) fun i hi => ?_
 match i,hi with
 | 0,_=>exact fm (by kernel_rfl) (wU _ ia)
 | n+1,hi=>omega
theorem yb (R:Type):rR Tryz.prog 44 (rP (cg (R:=R))):=cQ TT mixed .n rfl rfl rfl rfl (xa R) (zu aQ)

/-! ### humpyard/json.Same -/
abbrev cR (R:Type):Type:=Json→Json→(Bool→Option R)→Option R
abbrev lU:List ck := [.agg [.int .i64, .int .i64, .int .i64, .str, .sl .str, .sl .json], .agg [.int .i64, .int .i64, .int .i64, .str, .sl .str, .sl .json]]
abbrev lV:List aN := []
def gQ {R:Type} (fn:cR R):ck.aH lU→aN.aH lV→(V→aG→Option R)→Option R:=fun x y k=>fn (⟨x.1.1,⟨x.1.2.1,x.1.2.2.1⟩,x.1.2.2.2.1,x.1.2.2.2.2.1,x.1.2.2.2.2.2.1⟩:Json) (⟨x.2.1.1,⟨x.2.1.2.1,x.2.1.2.2.1⟩,x.2.1.2.2.2.1,x.2.1.2.2.2.2.1,x.2.1.2.2.2.2.2.1⟩:Json) (fun q0=>k (.bool q0) [])
def J3 {R:Type} (fn:cR R):aF.Spec R→aF.Spec R:=bj lU lV (gQ fn)
/-! ### slices.EqualFunc[[]humpyard/api.Json,[]humpyard/api.Json,humpyard/api.Json,humpyard/api.Json] -/
abbrev da (R:Type):Type:=(List Json)→(List Json)→(Bool→Option R)→Option R
abbrev gF:List ck := [.leaf (.sl .json), .leaf (.sl .json), .leaf (.fn 21)]
abbrev gG:List aN := []
def kL {R:Type} (fn:da R):ck.aH gF→aN.aH gG→(V→aG→Option R)→Option R:=fun x y k=>fn x.1 x.2.1 (fun q0=>k (.bool q0) [])
def k7 {R:Type} (fn:da R):aF.Spec R→aF.Spec R:=bj gF gG (kL fn)
abbrev cH (R:Type):Type:=Nat→(List Json)→(List Json)→Int→Int→(Option R)→(Bool→Option R)→Option R
def dj {R:Type} (aE:cR R):List (uI R) := [(21,true,(bj lU lV (gQ aE) aZ))]
theorem qx {R:Type} (aE:cR R) (lH:aF.Spec.Ok Tryz.prog 21 (bj lU lV (gQ aE) aZ)):eU (R:=R) Tryz.prog (dj aE) := .p lH <| .n
def cO {R:Type} (aE:cR R) (fC:(List Json)→(List Json)→Int→Int→Option R) (x3:List Json) (x4:List Json) (x5:Int) (x6:Int) (e0:Option R) (e1:Bool→Option R):Option R :=
 bif (decide (x6<x5))then (cw (decide ((0:Int)≤x6)&&decide (x6<x4.length)) (cw (decide ((0:Int)≤x6)&&decide (x6<x3.length)) (aE (⟨(x4.getD x6.toNat (Ty.bY .json)).kind,⟨(x4.getD x6.toNat (Ty.bY .json)).num.aB,(x4.getD x6.toNat (Ty.bY .json)).num.exp⟩,(x4.getD x6.toNat (Ty.bY .json)).text,(x4.getD x6.toNat (Ty.bY .json)).names,(x4.getD x6.toNat (Ty.bY .json)).items⟩:Json) (⟨(x3.getD x6.toNat (Ty.bY .json)).kind,⟨(x3.getD x6.toNat (Ty.bY .json)).num.aB,(x3.getD x6.toNat (Ty.bY .json)).num.exp⟩,(x3.getD x6.toNat (Ty.bY .json)).text,(x3.getD x6.toNat (Ty.bY .json)).names,(x3.getD x6.toNat (Ty.bY .json)).items⟩:Json) (fun y7=>bif (!y7)then (e1 false)else (fC x3 x4 x5 (IntKind.i64.wrap (x6+1)))))))else (e0)
def av {R:Type} (aE:cR R):cH R
 | 0,_,_,_,_,_,_=>none
 | n+1,kN,kO,lN,th,e0,e1=>cO aE (fun kN kO lN th=>av aE n kN kO lN th e0 e1) kN kO lN th e0 e1
def eE:Hint := { live := [1,2,15,16,17],own := [],rows := [],cells := [],drop := [],out := [6] }
abbrev bL:Type:=(List Json) × (List Json) × Int × Int
def dW:bL→St:=fun d=>⟨.undef :: .sl .json d.1 .no :: .func 21 [] []::U 12 (.sl .json d.2.1 .no :: .int .i64 d.2.2.1 :: .int .i64 d.2.2.2::U 14 ([])), []⟩
def fK {R:Type} (K:Ex→St→Option R):Option R:=K (.exit 0) ⟨U 32 ([]), []⟩
def fL {R:Type} (K:Ex→St→Option R) (q0:Bool):Option R:=K (.ret) ⟨U 6 (.bool q0::U 25 ([])), []⟩
def fS {R:Type} (aE:cR R) (K:Ex→St→Option R) (rc:bL→Option R) (d:bL):Option R:=cO aE (fun z0 z1 z2 z3=>rc (z0,z1,z2,z3)) d.1 d.2.1 d.2.2.1 d.2.2.2 (fK K) (fL K)
def cP {R:Type} (aE:cR R) (K:Ex→St→Option R) (n:Nat) (d:bL):Option R:=av aE n d.1 d.2.1 d.2.2.1 d.2.2.2 (fK K) (fL K)
abbrev bM:List ck := .leaf (.undef) :: .leaf (.sl .json) :: .leaf (.fn 21)::PU 12 (.leaf (.sl .json) :: .leaf (.int .i64) :: .leaf (.int .i64)::PU 14 ([]))
abbrev bN:List aN := []
def fT (x:ck.aH bM) (y:aN.aH bN):Nat:=(List.length x.2.1+List.length x.2.2.2.2.2.2.2.2.2.2.2.2.2.2.2.1+Int.natAbs x.2.2.2.2.2.2.2.2.2.2.2.2.2.2.2.2.1+Int.natAbs x.2.2.2.2.2.2.2.2.2.2.2.2.2.2.2.2.2.1+64)
def fU (x:ck.aH bM) (y:aN.aH bN):bL:=(x.2.1,x.2.2.2.2.2.2.2.2.2.2.2.2.2.2.2.1,x.2.2.2.2.2.2.2.2.2.2.2.2.2.2.2.2.1,x.2.2.2.2.2.2.2.2.2.2.2.2.2.2.2.2.2.1)
def fM {R:Type} (L:cH R):ck.aH bM→aN.aH bN→(Ex→St→Option R)→Option R:=fun x y K=>L (fT x y) x.2.1 x.2.2.2.2.2.2.2.2.2.2.2.2.2.2.2.1 x.2.2.2.2.2.2.2.2.2.2.2.2.2.2.2.2.1 x.2.2.2.2.2.2.2.2.2.2.2.2.2.2.2.2.2.1 (fK K) (fL K)
def dO (R:Type) (av:cH R):Nat→Option (Hint × eJ R):=fun i=>match i with
 | 4=>some (eE,(fQ bM bN (fM av) pr))
 | _=>none

theorem oE {R:Type} (aE:cR R) (av:cH R) (K:Ex→St→Option R) (rc:St→Option R) (d:bL):roundOf tt (fV (dj aE)) (dO R av) 0 ((br (bb Tryz.f45)).getD 0 .skip) eE (dW d) rc K=fS aE K (fun d=>rc (dW d)) d:=by kernel_rfl
theorem nI {R:Type} (aE:cR R) (K:Ex→St→Option R) (n:Nat) (d:bL):cP aE K (n+1) d=fS aE K (cP aE K n) d:=by kernel_rfl
theorem nJ {R:Type} (aE:cR R) (K:Ex→St→Option R) (d:bL):cP aE K 0 d=none:=by kernel_rfl
theorem oF (x:ck.aH bM) (y:aN.aH bN):(⟨ck.cz bM x,aN.cz bN y⟩:St)=dW (fU x y):=by kernel_rfl
theorem oG {R:Type} (aE:cR R) (x:ck.aH bM) (y:aN.aH bN) (K:Ex→St→Option R):fM (av aE) x y K=cP aE K (fT x y) (fU x y):=by kernel_rfl
theorem pe {R:Type} (aE:cR R) (other:eJ R) (ho:oa tt (fV (dj aE)) (dO R (av aE)) 0 ((br (bb Tryz.f45)).getD 0 .skip) eE other):oa tt (fV (dj aE)) (dO R (av aE)) 0 ((br (bb Tryz.f45)).getD 0 .skip) eE (fQ bM bN (fM (av aE)) other) :=
 gd (A:=cP aE) ho (jt dW (fS aE) (cP aE) (nJ aE) (oE aE (av aE)) (nI aE)) fT fU oF (oG aE)

def k8 {R:Type} (av:cH R) (x1:List Json) (x2:List Json) (k0:Bool→Option R):Option R :=
 bif ((x1.length:Int) != (x2.length:Int))then (k0 false)else (av (List.length x2+List.length x1+Int.natAbs (x1.length:Int)+Int.natAbs 0+64) x2 x1 (x1.length:Int) 0 (k0 true) (fun y8=>k0 y8))
def bg {R:Type} (aE:cR R):da R:=fun x1 x2 k0=>k8 (av aE) x1 x2 k0
theorem qO {R:Type} (aE:cR R) (av:cH R):gR (R:=R) tt (dj aE) (dO R av) false Tryz.f45 (bb Tryz.f45) gF gG (kL (k8 av)):=fun x y k=>by kernel_rfl
theorem pW (R:Type) (aE:cR R) (lH:aF.Spec.Ok Tryz.prog 21 (bj lU lV (gQ aE) aZ)):∀a∈br (bb Tryz.f45),lM tt (fV (dj aE)) (dO R (av aE)) 0 a:=by
 refine kZ 1 (by kernel_rfl) fun i hi => ?_
 match i,hi with
 | 0,_=>exact fm (by kernel_rfl) (pe aE _ ia)
 | n+1,hi=>omega
theorem pY (R:Type) (aE:cR R) (lH:aF.Spec.Ok Tryz.prog 21 (bj lU lV (gQ aE) aZ)):rR Tryz.prog 45 (k7 (bg aE)):=cQ TT mixed (qx aE lH) rfl rfl rfl rfl (pW R aE lH) (qO aE (av aE))

def J4 {R:Type} (bg:da R) (cg:fj R):List (uI R) := [(45,true,(k7 bg aZ)),(44,true,(rP cg aZ))]
theorem NN {R:Type} (aE:cR R) (lH:aF.Spec.Ok Tryz.prog 21 (bj lU lV (gQ aE) aZ)):eU (R:=R) Tryz.prog (J4 (bg aE) cg) := .p (pY R aE lH _ (aK _)) <| .p (yb R _ (aK _)) <| .n
def BE {R:Type} (bg:da R) (cg:fj R) (x1:Json) (x2:Json) (k0:Bool→Option R):Option R :=
 bif (x1.kind==x2.kind)then (bif (x1.num.aB==x2.num.aB&&(x1.num.exp==x2.num.exp&&true))then (bif (x1.text==x2.text)then (cg x1.names x2.names (fun y3=>bif y3 then (bg x1.items x2.items (fun y4=>k0 y4))else (k0 false)))else (k0 false))else (k0 false))else (k0 false)
def Fs {R:Type} (aE:cR R):cR R:=fun x1 x2 k0=>BE (bg aE) cg x1 x2 k0
theorem P4 {R:Type} (bg:da R) (cg:fj R):gR (R:=R) tt (J4 bg cg) xw false Tryz.f21 (bb Tryz.f21) lU lV (gQ (BE bg cg)):=fun x y k=>by kernel_rfl
theorem KC (R:Type) (aE:cR R) (lH:aF.Spec.Ok Tryz.prog 21 (bj lU lV (gQ aE) aZ)):rR Tryz.prog 21 (J3 (Fs aE)):=cQ TT mixed (NN aE lH) rfl rfl rfl rfl dV (P4 (bg aE) cg)
def jN {R:Type}:Nat→cR R
 | 0,_,_,_=>none
 | n+1,kN,kO,k0'=>Fs (jN n) kN kO k0'
theorem WR {R:Type} (n:Nat):jN (R:=R) (n+1)=Fs (jN n):=by kernel_rfl
theorem MP (R:Type):∀n,aF.Spec.Ok Tryz.prog 21 (bj lU lV (gQ (jN (R:=R) n)) aZ) :=
 vp (run:=fun n=>gQ (jN (R:=R) n)) (fun x y k=>by kernel_rfl) fun n hyp=>KC R (jN n) hyp aZ (aK _)
def ly {R:Type}:cR R:=fun x1 x2 k0=>jN (Json.depth x1+2) x1 x2 k0
theorem MQ (R:Type):gQ (R:=R) ly=fun x y k=>gQ (jN (Json.depth (⟨x.1.1,⟨x.1.2.1,x.1.2.2.1⟩,x.1.2.2.2.1,x.1.2.2.2.2.1,x.1.2.2.2.2.2.1⟩:Json)+2)) x y k:=by kernel_rfl
theorem MR (R:Type) (other:aF.Spec R) (ho:aF.Spec.Ok Tryz.prog 21 other):aF.Spec.Ok Tryz.prog 21 (bj lU lV (gQ ly) other) :=
 AK (Cl (run:=fun n=>gQ (jN (R:=R) n)) (fun x y=>(Json.depth (⟨x.1.1,⟨x.1.2.1,x.1.2.2.1⟩,x.1.2.2.2.1,x.1.2.2.2.2.1,x.1.2.2.2.2.2.1⟩:Json)+2)) ho (MP R)) (MQ R)

/-! ### humpyard/humpyardtop.pick -/
abbrev top_pick_ty (R:Type):Type:=Int→Int→(Int→Option R)→Option R
abbrev top_pick_p:List ck := [.leaf (.int .i64), .leaf (.int .i64)]
abbrev top_pick_q:List aN := []
def top_pick_rr {R:Type} (fn:top_pick_ty R):ck.aH top_pick_p→aN.aH top_pick_q→(V→aG→Option R)→Option R:=fun x y k=>fn x.1 x.2.1 (fun q0=>k (.int .i64 q0) [])
def top_pick_s {R:Type} (fn:top_pick_ty R):aF.Spec R→aF.Spec R:=bj top_pick_p top_pick_q (top_pick_rr fn)
def top_pick_X {R:Type} (x1:Int) (x2:Int) (k0:Int→Option R):Option R :=
 bif (decide (x1<(0:Int)))then (cw (!decide (x2=0)) (k0 (Int.tmod (IntKind.i64.wrap (0 - (IntKind.i64.wrap (x1+1)))) x2)))else (cw (!decide (x2=0)) (k0 (Int.tmod x1 x2)))
def top_pick {R:Type}:top_pick_ty R:=fun x1 x2 k0=>top_pick_X x1 x2 k0
theorem top_pick_ok {R:Type}:gR (R:=R) tt [] xw false Tryz.f22 (bb Tryz.f22) top_pick_p top_pick_q (top_pick_rr top_pick_X):=fun x y k=>by kernel_rfl
theorem top_pick_S_ok (R:Type):rR Tryz.prog 22 (top_pick_s (top_pick (R:=R))):=cQ TT mixed .n rfl rfl rfl rfl dV (top_pick_ok)

/-! ### humpyard/humpyardtop.TopTexts -/
abbrev top_TopTexts_ty (R:Type):Type:=Raw→Int→Int→(Bool→Option R)→Option R
abbrev top_TopTexts_p:List ck := [.agg [.int .i64, .int .i64, .int .i64, .sl (.int .i64), .sl .raw], .leaf (.int .i64), .leaf (.int .u8)]
abbrev top_TopTexts_q:List aN := []
def top_TopTexts_rr {R:Type} (fn:top_TopTexts_ty R):ck.aH top_TopTexts_p→aN.aH top_TopTexts_q→(V→aG→Option R)→Option R:=fun x y k=>fn (⟨x.1.1,x.1.2.1,x.1.2.2.1,x.1.2.2.2.1,x.1.2.2.2.2.1⟩:Raw) x.2.1 x.2.2.1 (fun q0=>k (.bool q0) [])
def top_TopTexts_s {R:Type} (fn:top_TopTexts_ty R):aF.Spec R→aF.Spec R:=bj top_TopTexts_p top_TopTexts_q (top_TopTexts_rr fn)
def top_TopTexts_E {R:Type} (mc:dh R) (top_pick:top_pick_ty R) (kv:qX R) (kf:qV R) (ly:cR R) (lk:sO R) (fe:mB R):List (uI R) := [(16,true,(J2 mc aZ)),(22,true,(top_pick_s top_pick aZ)),(20,true,(II kv aZ)),(17,true,(Ie kf aZ)),(21,true,(J3 ly aZ)),(19,true,(JY lk aZ)),(18,true,(E9 fe aZ))]
theorem top_TopTexts_EOk {R:Type}:eU (R:=R) Tryz.prog (top_TopTexts_E mc top_pick kv kf ly lk fe) := .p (MN R _ (aK _)) <| .p (top_pick_S_ok R _ (aK _)) <| .p (KB R _ (aK _)) <| .p (Ko R _ (aK _)) <| .p (MR R _ (aK _)) <| .p (Mo R _ (aK _)) <| .p (Fa R _ (aK _)) <| .n
def top_TopTexts_X {R:Type} (mc:dh R) (top_pick:top_pick_ty R) (kv:qX R) (kf:qV R) (ly:cR R) (lk:sO R) (fe:mB R) (x1:Raw) (x2:Int) (x3:Int) (k0:Bool→Option R):Option R :=
 mc (⟨x1.kind,x1.aB,x1.exp,x1.text,x1.items⟩:Raw) 1 (fun y4=>kf (⟨y4.kind,⟨y4.num.aB,y4.num.exp⟩,y4.text,y4.names,y4.items⟩:Json) (fun y5=>bif (y5==([]:aj))then (k0 false)else (bif (decide ((y5.length:Int)>(20000:Int)))then (k0 true)else (fe y5 (fun y6=>lk y6 (fun y7 y8=>kv y7 (fun y9 xD vu=>bif (y8 != 0)then (k0 false)else (bif (xD != 0)then (k0 false)else (ly (⟨y4.kind,⟨y4.num.aB,y4.num.exp⟩,y4.text,y4.names,y4.items⟩:Json) (⟨y9.kind,⟨y9.num.aB,y9.num.exp⟩,y9.text,y9.names,y9.items⟩:Json) (fun yx=>bif (!yx)then (k0 false)else (bif ((y6.length:Int)==0)then (k0 false)else (top_pick x2 (y6.length:Int) (fun zA=>cw (decide ((0:Int)≤zA)&&decide (zA<y6.length)) (cw (decide (zA.toNat<(gD y6).length)) (cw (decide ((0:Int)≤zA)&&decide (zA<y6.length)) (cw (decide (zA.toNat<(gD y6).length)) (lk (List.map (fun n:Int=>UInt8.ofNat n.toNat) ((gD y6).set zA.toNat (IntKind.u8.wrap ((BitVec.ofInt IntKind.u8.bits ((gD y6).getD zA.toNat (Ty.bY (.int .u8))) ^^^ BitVec.ofInt IntKind.u8.bits (IntKind.u8.wrap (1+(Int.tmod x3 255)))).toNat:Int))):aj) (fun FF FG=>k0 (FG==60)))))))))))))))))))
def top_TopTexts {R:Type}:top_TopTexts_ty R:=fun x1 x2 x3 k0=>top_TopTexts_X mc top_pick kv kf ly lk fe x1 x2 x3 k0
theorem top_TopTexts_ok {R:Type} (mc:dh R) (top_pick:top_pick_ty R) (kv:qX R) (kf:qV R) (ly:cR R) (lk:sO R) (fe:mB R):gR (R:=R) tt (top_TopTexts_E mc top_pick kv kf ly lk fe) xw false Tryz.f3 (bb Tryz.f3) top_TopTexts_p top_TopTexts_q (top_TopTexts_rr (top_TopTexts_X mc top_pick kv kf ly lk fe)):=fun x y k=>by kernel_rfl
theorem top_TopTexts_S_ok (R:Type):rR Tryz.prog 3 (top_TopTexts_s (top_TopTexts (R:=R))):=cQ TT mixed (top_TopTexts_EOk (R:=R)) rfl rfl rfl rfl dV (top_TopTexts_ok mc top_pick kv kf ly lk fe)

end Go.Proofs.YtmlkkgfenfdndaaGreatDoor

set_option maxRecDepth 100000
namespace Go.Proofs.YtmlkkgfenfdndaaGreatDoor
open Go Go.aF Go.Lib

abbrev R5:=Int × List Token
def lA (x:aj):List Token→Option (List Token)
  | t::r=>if t.kind=1∧t.text=x then some r else none
  | []=>none
def Gz (ns:List aj):List Token→Except R5 (aj × List Token)
  | t::r =>
    if t.kind≠2 then .error (40,t::r)else if ns.contains t.text then .error (42,t::r)else
      match lA [58] r with
      | some r' => .ok (t.text,r')
      | none => .error (40,r)
  | [] => .error (0, [])
def zN (f:List Token→Except R5 (Json × List Token)) (obj:Bool) (ns:List aj) (is:List Json) (ts:List Token):Except R5 ((List aj × List Json) × List Token) :=
  match obj with
  | true =>
    (match Gz ns ts with
     | .error b => .error b
     | .ok (nm,ts1)=>(match f ts1 with | .error b => .error b | .ok (v,KD) => .ok ((ns ++ [nm],is ++ [v]),KD)))
  | false=>(match f ts with | .error b => .error b | .ok (v,KD) => .ok ((ns,is ++ [v]),KD))
def yM (f:List Token→Except R5 (Json × List Token)) (cl:aj) (obj:Bool):Nat→List aj→List Json→List Token→Except R5 ((List aj × List Json) × List Token)
  | 0,_,_,ts => .error (0,ts)
  | m+1,ns,is,ts =>
    match zN f obj ns is ts with
    | .error b => .error b
    | .ok (p,KD) =>
      match lA cl KD with
      | some r => .ok (p,r)
      | none =>
        match lA [44] KD with
        | some r=>yM f cl obj m p.1 p.2 r
        | none => .error (40,KD)
def B3 (t:aj):Bool:=t==oz||(t==kl||t==rL)
def P5:List (aj × Int) := [(oz,1),(kl,2),(rL,3)]
def A3 (t:aj):Bool:=t == [91]||t == [123]
def sw (t:Token):Bool:=t.kind==2||(t.kind==3||(t.kind==4||(t.kind==1&&A3 t.text)))
def xb:Nat→Int→List Token→Except R5 (Json × List Token)
  | 0,_,ts => .error (0,ts)
  | _+1,_, [] => .error (0, [])
  | n+1,d,t::r =>
    if sw t=false then .error (40,t::r)else
    if d>16 then .error (41,t::r)else
    if t.kind=1∧A3 t.text=true then
      let obj:=t.text == [123]
      let k:Int:=if obj then 7 else 6
      let cl:aj:=if obj then [125]else [93]
      match lA cl r with
      | some r' => .ok (⟨k,⟨0,0⟩, [], [], []⟩,r')
      | none =>
        match yM (xb n (d+1)) cl obj (r.length+1) [] [] r with
        | .error b => .error b
        | .ok (p,r') => .ok (⟨k,⟨0,0⟩, [],p.1,p.2⟩,r')
    else if t.kind=4∧B3 t.text=true then .ok (⟨mw .str (.int .i64) t.text P5,⟨0,0⟩, [], [], []⟩,r)
    else if t.kind=3 then .ok (⟨4,t.num, [], [], []⟩,r)
    else .ok (⟨5,⟨0,0⟩,t.text, [], []⟩,r)

theorem Ax {x:aj} {ts r:List Token} (h:lA x ts=some r):r.length<ts.length:=by
  cases ts with
  | nil=>cases h
  | cons t ts =>
    simp only[lA]at h
    split at h
    · cases h; simp
    · cases h
theorem OI {ns:List aj} {ts:List Token} {p:aj × List Token} (h:Gz ns ts = .ok p):p.2.length<ts.length:=by
  cases ts with
  | nil=>cases h
  | cons t ts =>
    simp only[Gz]at h
    split at h
    · cases h
    · split at h
      · cases h
      · split at h
        · rename_i r hr
          have:=Ax hr
          cases h
          simp; omega
        · cases h
theorem Jz {f:List Token→Except R5 (Json × List Token)} (hf:∀ts p,f ts = .ok p→p.2.length<ts.length) {obj:Bool} {ns:List aj} {is:List Json} {ts:List Token} {p:(List aj × List Json) × List Token} (h:zN f obj ns is ts = .ok p) :
    p.2.length<ts.length:=by
  cases obj with
  | true =>
    simp only[zN]at h
    split at h
    · cases h
    · rename_i nm ts1 hn
      have h1:=OI hn
      split at h
      · cases h
      · rename_i v KD hv
        have h2:=hf _ _ hv
        cases h
        simp only at h1 h2 ⊢
        omega
  | false =>
    simp only[zN]at h
    split at h
    · cases h
    · rename_i v KD hv
      have h2:=hf _ _ hv
      cases h
      exact h2
theorem OJ {f:List Token→Except R5 (Json × List Token)} (hf:∀ts p,f ts = .ok p→p.2.length<ts.length) {cl:aj} {obj:Bool}:∀(m:Nat) (ns:List aj) (is:List Json) (ts:List Token) (p:(List aj × List Json) × List Token),
    yM f cl obj m ns is ts = .ok p→p.2.length<ts.length
  | 0,_,_,_,_,h=>by cases h
  | m+1,ns,is,ts,p,h=>by
    simp only[yM]at h
    split at h
    · cases h
    · rename_i q KD hq
      have h1:=Jz hf hq
      split at h
      · rename_i r hr
        have h2:=Ax hr
        cases h
        simp only at h1 h2 ⊢
        omega
      · split at h
        · rename_i r hr
          have h2:=Ax hr
          have h3:=OJ hf m _ _ _ _ h
          simp only at h1 h2 h3 ⊢
          omega
        · cases h
theorem RS:∀(n:Nat) (d:Int) (ts:List Token) (p:Json × List Token),xb n d ts = .ok p→p.2.length<ts.length
  | 0,_,_,_,h=>by cases h
  | _+1,_, [],_,h=>by cases h
  | n+1,d,t::r,p,h=>by
    simp only[xb]at h
    split at h
    · cases h
    split at h
    · cases h
    split at h
    · split at h
      · rename_i r' hr
        have:=Ax hr
        cases h
        simp; omega
      · split at h
        · cases h
        · rename_i q r' hq
          have:=OJ (fun ts p=>RS n (d+1) ts p) _ _ _ _ _ hq
          cases h
          simp only[List.length_cons]at this ⊢
          omega
    split at h
    · cases h; simp
    split at h
    · cases h; simp
    · cases h; simp

theorem MS {f:List Token→Except R5 (Json × List Token)} (hf:∀ts p,f ts = .ok p→p.2.length<ts.length) {cl:aj} {obj:Bool}:∀(m m':Nat) (ns:List aj) (is:List Json) (ts:List Token),ts.length<m→ts.length<m' →
    yM f cl obj m ns is ts=yM f cl obj m' ns is ts
  | 0,_,_,_,_,h,_=>by omega
  | _+1,0,_,_,_,_,h=>by omega
  | m+1,m'+1,ns,is,ts,h,h'=>by
    simp only[yM]
    cases hq:zN f obj ns is ts with
    | error b=>rfl
    | ok q =>
      obtain ⟨p,KD⟩:=q
      have h1:=Jz hf hq
      simp only
      cases lA cl KD with
      | some r=>rfl
      | none =>
        simp only
        cases hr:lA [44] KD with
        | none=>rfl
        | some r =>
          have h2:=Ax hr
          simp only at h1 h2 ⊢
          exact MS hf m m' _ _ _ (by omega) (by omega)

def WS {α:Type} (P:α→Prop) (Q:R5→Prop):Except R5 α→Prop
 | .ok p=>P p
 | .error b=>Q b

def zw (ts:List Token):Prop:=∃e,ts.getLast? = some e∧e.kind=5
theorem zw.ne {ts:List Token} (h:zw ts):ts ≠ []:=by
 rintro rfl
 obtain ⟨e,h,_⟩:=h
 cases h
theorem zw.tail {t:Token} {r:List Token} (h:zw (t::r)) (ht:t.kind≠5):zw r:=by
 obtain ⟨e,h1,h2⟩:=h
 cases r with
 | nil =>
  simp at h1
  subst h1
  exact (ht h2).elim
 | cons u r=>exact ⟨e,by simpa [List.getLast?_cons_cons]using h1,h2⟩

theorem CE {x:aj} {ts r:List Token} (he:zw ts) (h:lA x ts=some r):zw r:=by
 cases ts with
 | nil=>cases h
 | cons t ts =>
  simp only[lA]at h
  split at h
  ·rename_i hc
   cases h
   exact he.tail (by rw[hc.1]; decide)
  ·cases h
theorem WT {ns:List aj} {ts:List Token} (he:zw ts):WS (fun p:aj × List Token=>zw p.2) (fun b=>zw b.2∧b.1≠0) (Gz ns ts):=by
 cases ts with
 | nil=>exact (he.ne rfl).elim
 | cons t ts =>
  simp only[Gz]
  by_cases hk:t.kind=2
  ·rw[if_neg (by simp[hk])]
   have h1:=he.tail (by rw[hk]; decide)
   by_cases hc:ns.contains t.text=true
   ·rw[if_pos hc]
    exact ⟨he,by show (_:Int)≠0; simp⟩
   ·rw[if_neg hc]
    cases hr:lA [58] ts with
    | some r=>exact CE h1 hr
    | none=>exact ⟨h1,by show (_:Int)≠0; simp⟩
  ·rw[if_pos hk]
   exact ⟨he,by show (_:Int)≠0; simp⟩

theorem ym {t:Token} {r:List Token}:decide ((0:Int)<((t::r).length:Int))=true:=by rw[decide_eq_true_eq,List.length_cons]; omega
theorem KW {t:Token} {r:List Token}:decide ((1:Int)≤((t::r).length:Int))=true:=by rw[decide_eq_true_eq,List.length_cons]; omega

theorem Ft {R:Type} (x:aj) {ts:List Token} (hn:ts ≠ []) (k:Bool→List Token→Int→Option R):aq x ts 0 k=match lA x ts with|some r=>k true r 0|none=>k false ts 0:=by
 cases ts with
 | nil=>exact (hn rfl).elim
 | cons t r =>
  have e0:aq x (t::r) 0 k=cw (decide ((0:Int)<((t::r).length:Int))) (bif (t.kind != 1)then (k false (t::r) 0)else (bif (!(t.text==x))then (k false (t::r) 0)else (cw (decide ((1:Int)≤((t::r).length:Int))) (k true r 0)))):=rfl
  rw[e0,aL ym]
  simp only[lA]
  by_cases h1:t.kind=1
  ·by_cases h2:t.text=x
   ·rw[if_pos ⟨h1,h2⟩]
    have e1:(t.kind != 1)=false:=by simp[h1]
    have e2:(!(t.text==x))=false:=by simp[h2]
    rw[e1,e2,aL KW]
    rfl
   ·rw[if_neg (fun h=>h2 h.2)]
    have e1:(t.kind != 1)=false:=by simp[h1]
    have e2:(!(t.text==x))=true:=by simp[h2]
    rw[e1,e2]
    rfl
  ·rw[if_neg (fun h=>h1 h.1)]
   have e1:(t.kind != 1)=true:=by simp[h1]
   rw[e1]
   rfl

theorem TQ {R:Type} (ns:List aj) (x:aj) (hl:ns.length≤1099511627776) (k:Bool→Option R):∀(F i:Nat),i≤ns.length→ns.length - i<F →
  aU F ns x (ns.length:Int) (i:Int) (k (decide ((-1:Int)≥0))) (fun y=>k (decide (y≥0)))=k ((ns.drop i).contains x):=by
 intro F
 induction F with
 | zero=>intro i _ h; omega
 | succ F ih =>
  intro i hi hF
  show gV (fun x0 x1 x2 x3=>aU F x0 x1 x2 x3 _ _) ns x (ns.length:Int) (i:Int) _ _=_
  unfold gV
  by_cases h:i<ns.length
  ·have h1:decide ((i:Int)<(ns.length:Int))=true:=by simp; omega
   have h2:(decide ((0:Int)≤(i:Int))&&true)=true:=by simp
   have hw:IntKind.i64.wrap ((i:Int)+1)=((i+1:Nat):Int):=by rw[dx (by omega) (by omega)]; omega
   have hg:ns.getD (i:Int).toNat (Ty.bY .str)=ns[i]:=getD_at h _
   have hj:(decide ((i:Int)≥0))=true:=by simp
   rw[h1,cond_true,aL h2,hg,List.drop_eq_getElem_cons h,List.contains_cons]
   cases hq:x==ns[i]with
   | true =>
    rw[cond_true,Bool.true_or]
    show k (decide ((i:Int)≥0))=k true
    rw[hj]
   | false =>
    rw[cond_false,Bool.false_or,hw]
    exact ih (i+1) (by omega) (by omega)
  ·have h1:decide ((i:Int)<(ns.length:Int))=false:=by simp; omega
   rw[h1,cond_false,List.drop_eq_nil_of_le (by omega)]
   rfl
theorem DB {R:Type} (ns:List aj) (x:aj) (hl:ns.length≤1099511627776) (k:Bool→Option R):bS ns x k=k (ns.contains x):=by
 have:=TQ ns x hl k (List.length ns+List.length x+Int.natAbs (ns.length:Int)+Int.natAbs 0+64) 0 (by omega) (by omega)
 rw[List.drop_zero]at this
 exact this

theorem name_ok {R:Type} (ns:List aj) (hl:ns.length≤1099511627776) {ts:List Token} (he:zw ts):WS (fun p:aj × List Token=>∀k:aj→List Token→Int→Option R,cG ns ts 0 k=k p.1 p.2 0)
  (fun b=>∃nm,∀k:aj→List Token→Int→Option R,cG ns ts 0 k=k nm b.2 b.1) (Gz ns ts):=by
 cases ts with
 | nil=>exact (he.ne rfl).elim
 | cons t r =>
  have e0:∀k:aj→List Token→Int→Option R,cG ns (t::r) 0 k=cw (decide ((0:Int)<((t::r).length:Int))) (bif (t.kind != 2)then (k t.text (t::r) 40)else (bS ns t.text (fun y6=>bif y6 then (k t.text (t::r) 42)else (cw (decide ((1:Int)≤((t::r).length:Int))) (aq [58] r 0 (fun y9 xD vu=>bif (!y9)then (ak 40 xD vu (fun yx DS=>k t.text yx DS))else (k t.text xD vu))))))):=fun k=>rfl
  simp only[Gz]
  by_cases hk:t.kind=2
  ·have e1:(t.kind != 2)=false:=by simp[hk]
   have hr:=he.tail (by rw[hk]; decide)
   rw[if_neg (by simp[hk])]
   cases hc:ns.contains t.text with
   | true =>
    rw[if_pos rfl]
    refine ⟨t.text,fun k => ?_⟩
    rw[e0,aL ym,e1,cond_false,DB ns _ hl,hc]
    rfl
   | false =>
    rw[if_neg (by simp)]
    have hs:=fun k:Bool→List Token→Int→Option R=>Ft [58] hr.ne k
    cases hq:lA [58] r with
    | some r' =>
     rw[hq]at hs
     intro k
     rw[e0,aL ym,e1,cond_false,DB ns _ hl,hc,cond_false,aL KW]
     exact hs _
    | none =>
     rw[hq]at hs
     refine ⟨t.text,fun k => ?_⟩
     rw[e0,aL ym,e1,cond_false,DB ns _ hl,hc,cond_false,aL KW]
     exact hs _
  ·have e1:(t.kind != 2)=true:=by simp[hk]
   rw[if_pos hk]
   refine ⟨t.text,fun k => ?_⟩
   rw[e0,aL ym,e1]
   rfl

def Hval {R:Type} (iB:aw R) (f:List Token→Except R5 (Json × List Token)) (d:Int) (B:Nat):Prop :=
 ∀ts,zw ts→ts.length≤B→WS (fun p:Json × List Token=>zw p.2∧∀k:Json→List Token→Int→Option R,iB d ts 0 k=k p.1 p.2 0)
  (fun b=>(zw b.2∧b.1≠0)∧∃v,∀k:Json→List Token→Int→Option R,iB d ts 0 k=k v b.2 b.1) (f ts)

theorem KX {α:Type} (l:List α) (a b:α):(l ++ [a]).set ((l.length:Int)).toNat b=l ++ [b]:=by
 rw[Int.toNat_natCast,List.set_append_right _ _ (Nat.le_refl _),Nat.sub_self]
 rfl

abbrev Z9 (R:Type):=Bool→Int→Int→Int→aj→List aj→Nat→Int→List Json→List Token→Int→Option R
theorem aac {R:Type} (iB:aw R) (f:List Token→Except R5 (Json × List Token)) (d:Int) (hd:0≤d∧d≤16) (B:Nat) (hv:Hval iB f (d+1) B) (obj:Bool) (kd a b:Int) (tx:aj) (ns:List aj) (is:List Json) (ts:List Token)
  (he:zw ts) (hB:ts.length≤B) (Hi:ns.length≤1000000000) (J0:is.length≤1000000000) :
  WS (fun p:(List aj × List Json) × List Token=>zw p.2∧∀G:Z9 R,aY iB obj kd a b tx ns is.length d is ts 0 (fun a1 a2 a3 a4 a5 a6 a7 a8 t e i=>G a1 a2 a3 a4 a5 a6 a7 a8 i t e) G (fun a1 a2 a3 a4 a5 a6 a7 a8 t e i=>G a1 a2 a3 a4 a5 a6 a7 a8 i t e) G=G obj kd a b tx p.1.1 p.1.2.length d p.1.2 p.2 0)
   (fun q=>(zw q.2∧q.1≠0)∧∃KY n' KZ,∀G:Z9 R,aY iB obj kd a b tx ns is.length d is ts 0 (fun a1 a2 a3 a4 a5 a6 a7 a8 t e i=>G a1 a2 a3 a4 a5 a6 a7 a8 i t e) G (fun a1 a2 a3 a4 a5 a6 a7 a8 t e i=>G a1 a2 a3 a4 a5 a6 a7 a8 i t e) G=G obj kd a b tx KY n' d KZ q.2 q.1)
   (zN f obj ns is ts):=by
 have e0:∀k0 k1 k2 k3,aY iB obj kd a b tx ns is.length d is ts 0 k0 k1 k2 k3=ei cG iB obj kd a b tx ns is.length d is ts 0 k0 k1 k2 k3:=fun _ _ _ _=>rfl
 have c1:decide ((ns.length+1)*16≤140737488355328)=true:=by rw[decide_eq_true_eq]; omega
 have c2:decide ((is.length+1)*88≤140737488355328)=true:=by rw[decide_eq_true_eq]; omega
 have hw:IntKind.i64.wrap (d+1)=d+1:=dx (by omega) (by omega)
 have jc:∀c:Int,c≠0→(c==0)=false:=fun c hc=>by simpa using hc
 cases obj with
 | true =>
  have hn:=name_ok (R:=R) ns (by omega) he
  have hnE:=WT (ns:=ns) he
  have hnL:=fun p=>OI (ns:=ns) (ts:=ts) (p:=p)
  simp only[zN]
  cases hq:Gz ns ts with
  | error q =>
   rw[hq]at hn hnE
   obtain ⟨nm,hn⟩:=hn
   refine ⟨hnE,ns ++ [nm],is.length,is,fun G => ?_⟩
   rw[e0]
   unfold ei
   rw[cond_true,hn,aL c1,jc _ hnE.2]
   rfl
  | ok q =>
   obtain ⟨nm,ts1⟩:=q
   rw[hq]at hn hnE hnL
   have hl1:=hnL _ rfl
   have h2:=hv ts1 hnE (by simp only at hl1; omega)
   simp only
   cases hf:f ts1 with
   | error q =>
    rw[hf]at h2
    obtain ⟨h2,v,h3⟩:=h2
    refine ⟨h2,ns ++ [nm],is.length+1,is ++ [v],fun G => ?_⟩
    rw[e0]
    unfold ei
    rw[cond_true,hn,aL c1]
    show (iB (IntKind.i64.wrap (d+1)) ts1 0 _)=_
    rw[hw,h3,aL c2,aL (by simp; omega),aL (by simp),KX,Json.eta]
   | ok q =>
    obtain ⟨v,KD⟩:=q
    rw[hf]at h2
    obtain ⟨h2,h3⟩:=h2
    refine ⟨h2,fun G => ?_⟩
    rw[e0]
    unfold ei
    rw[cond_true,hn,aL c1]
    show (iB (IntKind.i64.wrap (d+1)) ts1 0 _)=_
    rw[hw,h3,aL c2,aL (by simp; omega),aL (by simp),KX,Json.eta]
    simp only[List.length_append,List.length_cons,List.length_nil]
 | false =>
  have h2:=hv ts he hB
  simp only[zN]
  cases hf:f ts with
  | error q =>
   rw[hf]at h2
   obtain ⟨h2,v,h3⟩:=h2
   refine ⟨h2,ns,is.length+1,is ++ [v],fun G => ?_⟩
   rw[e0]
   unfold ei
   show (iB (IntKind.i64.wrap (d+1)) ts 0 _)=_
   rw[hw,h3,aL c2,aL (by simp; omega),aL (by simp),KX,Json.eta]
  | ok q =>
   obtain ⟨v,KD⟩:=q
   rw[hf]at h2
   obtain ⟨h2,h3⟩:=h2
   refine ⟨h2,fun G => ?_⟩
   rw[e0]
   unfold ei
   show (iB (IntKind.i64.wrap (d+1)) ts 0 _)=_
   rw[hw,h3,aL c2,aL (by simp; omega),aL (by simp),KX,Json.eta]
   simp only[List.length_append,List.length_cons,List.length_nil]

theorem WU {f:List Token→Except R5 (Json × List Token)} {obj:Bool} {ns:List aj} {is:List Json} {ts:List Token} {p:(List aj × List Json) × List Token} (h:zN f obj ns is ts = .ok p) :
  p.1.1.length≤ns.length+1∧p.1.2.length=is.length+1:=by
 cases obj with
 | true =>
  simp only[zN]at h
  split at h
  ·cases h
  ·split at h
   ·cases h
   ·cases h; simp
 | false =>
  simp only[zN]at h
  split at h
  ·cases h
  ·cases h; simp

theorem loop_ok {R:Type} (iB:aw R) (f:List Token→Except R5 (Json × List Token)) (hfl:∀ts p,f ts = .ok p→p.2.length<ts.length) (d:Int) (hd:0≤d∧d≤16) (B:Nat) (hBB:B≤100000000) (hv:Hval iB f (d+1) B) (obj:Bool) (kd a b:Int) (tx cl:aj) :
  ∀(F:Nat) (ns:List aj) (is:List Json) (ts:List Token),ts.length<F→zw ts→ts.length≤B→ns.length+ts.length≤1000000000→is.length+ts.length≤1000000000 →
  WS (fun p:(List aj × List Json) × List Token=>zw p.2∧∀e0,aI iB F cl ts 0 obj kd a b tx ns is.length d is e0=e0 p.2 0 obj kd a b tx p.1.1 p.1.2.length d p.1.2)
   (fun q=>(zw q.2∧q.1≠0)∧∃KY n' KZ,∀e0,aI iB F cl ts 0 obj kd a b tx ns is.length d is e0=e0 q.2 q.1 obj kd a b tx KY n' d KZ)
   (yM f cl obj F ns is ts):=by
 intro F
 induction F with
 | zero=>intro ns is ts h; omega
 | succ F ih =>
  intro ns is ts hF he hB Hi J0
  have e1:∀e0,aI iB (F+1) cl ts 0 obj kd a b tx ns is.length d is e0=mG ak (aY iB) aq (fun kN kO lN th BT Dk Ks Kt Ku Kv zh Fp=>aI iB F kN kO lN th BT Dk Ks Kt Ku Kv zh Fp e0) cl ts 0 obj kd a b tx ns is.length d is e0:=fun e0=>rfl
  let G:(List Token→Int→Bool→Int→Int→Int→aj→List aj→Nat→Int→List Json→Option R)→Z9 R:=fun e0 Xd Tu Wp Xe Xf Xg Ov Rs Rt Xh Wq =>
   bif (Wq != 0)then (e0 Xh Wq Xd Tu Wp Xe Xf Xg Ov Rs Rt)else (aq cl Xh Wq (fun y80 y81 y82=>bif y80 then (e0 y81 y82 Xd Tu Wp Xe Xf Xg Ov Rs Rt)else (aq [44] y81 y82 (fun y86 y87 y88=>bif (!y86)then (ak 40 y87 y88 (fun y89 y90=>e0 y89 y90 Xd Tu Wp Xe Xf Xg Ov Rs Rt))else (aI iB F cl y87 y88 Xd Tu Wp Xe Xf Xg Ov Rs Rt e0)))))
  have e2:∀e0,aI iB (F+1) cl ts 0 obj kd a b tx ns is.length d is e0=aY iB obj kd a b tx ns is.length d is ts 0 (fun a1 a2 a3 a4 a5 a6 a7 a8 t e i=>G e0 a1 a2 a3 a4 a5 a6 a7 a8 i t e) (G e0) (fun a1 a2 a3 a4 a5 a6 a7 a8 t e i=>G e0 a1 a2 a3 a4 a5 a6 a7 a8 i t e) (G e0):=fun e0=>rfl
  have hp:=aac iB f d hd B hv obj kd a b tx ns is ts he hB (by omega) (by omega)
  simp only[yM]
  cases hq:zN f obj ns is ts with
  | error q =>
   rw[hq]at hp
   obtain ⟨h1,KY,n',KZ,h2⟩:=hp
   refine ⟨h1,KY,n',KZ,fun e0 => ?_⟩
   rw[e2,h2]
   show (bif (q.1 != 0)then _ else _)=_
   have:(q.1 != 0)=true:=by simpa using h1.2
   rw[this,cond_true]
  | ok q =>
   obtain ⟨⟨ns1,is1⟩,KD⟩:=q
   rw[hq]at hp
   obtain ⟨h1,h2⟩:=hp
   have hlen:=Jz hfl hq
   have hout:=WU hq
   simp only at h1 h2 hlen hout ⊢
   have s1:=fun k:Bool→List Token→Int→Option R=>Ft cl h1.ne k
   cases hs:lA cl KD with
   | some r =>
    rw[hs]at s1
    refine ⟨CE h1 hs,fun e0 => ?_⟩
    rw[e2,h2]
    show aq cl KD 0 _=_
    rw[s1]
    rfl
   | none =>
    rw[hs]at s1
    have s2:=fun k:Bool→List Token→Int→Option R=>Ft [44] h1.ne k
    simp only
    cases UR:lA [44] KD with
    | none =>
     rw[UR]at s2
     refine ⟨⟨h1,by show (_:Int)≠0; simp⟩,ns1,is1.length,is1,fun e0 => ?_⟩
     rw[e2,h2]
     show aq cl KD 0 _=_
     rw[s1]
     show aq [44] KD 0 _=_
     rw[s2]
     rfl
    | some r =>
     rw[UR]at s2
     have hl3:=Ax UR
     have hih:=ih ns1 is1 r (by omega) (CE h1 UR) (by omega) (by omega) (by omega)
     have e3:∀e0,aI iB (F+1) cl ts 0 obj kd a b tx ns is.length d is e0=aI iB F cl r 0 obj kd a b tx ns1 is1.length d is1 e0:=fun e0=>by
      rw[e2,h2]
      show aq cl KD 0 _=_
      rw[s1]
      show aq [44] KD 0 _=_
      rw[s2]
      rfl
     simp only[e3]
     exact hih

theorem UW {R:Type} (iB:aw R) (f:List Token→Except R5 (Json × List Token)) (hfl:∀ts p,f ts = .ok p→p.2.length<ts.length) (d:Int) (hd:0≤d∧d≤16) (B:Nat) (hBB:B≤100000000) (hv:Hval iB f (d+1) B) (obj:Bool) (kd a b:Int) (tx cl:aj)
  (r:List Token) (he:zw r) (hB:r.length≤B) (hs:lA cl r=none) :
  WS (fun p:(List aj × List Json) × List Token=>zw p.2∧∀K0 (K:Json→List Token→Int→Option R),bH iB cl r 0 obj kd a b tx d K0 (fun DS zA FF FG JV Hj PS Nb A7 Tr Rn=>K ⟨FG,⟨JV,Hj⟩,PS,Nb,Rn⟩ DS zA)=K ⟨kd,⟨a,b⟩,tx,p.1.1,p.1.2⟩ p.2 0)
   (fun q=>(zw q.2∧q.1≠0)∧∃v,∀K0 (K:Json→List Token→Int→Option R),bH iB cl r 0 obj kd a b tx d K0 (fun DS zA FF FG JV Hj PS Nb A7 Tr Rn=>K ⟨FG,⟨JV,Hj⟩,PS,Nb,Rn⟩ DS zA)=K v q.2 q.1) (yM f cl obj (r.length+1) [] [] r):=by
 have e1:∀K0 K1,bH iB cl r 0 obj kd a b tx d K0 K1=aq cl r 0 (fun xD vu yx=>bif xD then (K0 vu yx obj kd a b tx d)else (aI iB (List.length cl+List.length vu+Int.natAbs yx+Int.natAbs kd+Int.natAbs a+Int.natAbs b+List.length tx+List.length ([]:List aj)+Int.natAbs d+List.length ([]:List Json)+64) cl vu yx obj kd a b tx ([]:List aj) 0 d ([]:List Json) K1)):=fun K0 K1=>rfl
 have s1:=fun k:Bool→List Token→Int→Option R=>Ft cl he.ne k
 rw[hs]at s1
 have hl:=loop_ok iB f hfl d hd B hBB hv obj kd a b tx cl (List.length cl+List.length r+Int.natAbs 0+Int.natAbs kd+Int.natAbs a+Int.natAbs b+List.length tx+List.length ([]:List aj)+Int.natAbs d+List.length ([]:List Json)+64) [] [] r (by omega) he hB (by simp; omega) (by simp; omega)
 have e2:∀K0 K1,bH iB cl r 0 obj kd a b tx d K0 K1=aI iB (List.length cl+List.length r+Int.natAbs 0+Int.natAbs kd+Int.natAbs a+Int.natAbs b+List.length tx+List.length ([]:List aj)+Int.natAbs d+List.length ([]:List Json)+64) cl r 0 obj kd a b tx ([]:List aj) ([]:List Json).length d ([]:List Json) K1:=fun K0 K1=>by
  rw[e1,s1]
  rfl
 rw[MS hfl _ (r.length+1) [] [] r (by omega) (by omega)]at hl
 cases hq:yM f cl obj (r.length+1) [] [] r with
 | error q =>
  rw[hq]at hl
  obtain ⟨h1,KY,n',KZ,h2⟩:=hl
  exact ⟨h1,⟨kd,⟨a,b⟩,tx,KY,KZ⟩,fun K0 K=>by rw[e2,h2]⟩
 | ok p =>
  rw[hq]at hl
  obtain ⟨h1,h2⟩:=hl
  exact ⟨h1,fun K0 K=>by rw[e2,h2]⟩
theorem OK {R:Type} (iB:aw R) (obj:Bool) (kd a b d:Int) (tx cl:aj) (r r':List Token) (hn:r ≠ []) (hs:lA cl r=some r') (K0 K1) :
  bH (R:=R) iB cl r 0 obj kd a b tx d K0 K1=K0 r' 0 obj kd a b tx d:=by
 have e1:bH iB cl r 0 obj kd a b tx d K0 K1=aq cl r 0 (fun xD vu yx=>bif xD then (K0 vu yx obj kd a b tx d)else (aI iB (List.length cl+List.length vu+Int.natAbs yx+Int.natAbs kd+Int.natAbs a+Int.natAbs b+List.length tx+List.length ([]:List aj)+Int.natAbs d+List.length ([]:List Json)+64) cl vu yx obj kd a b tx ([]:List aj) 0 d ([]:List Json) K1)):=rfl
 rw[e1,Ft cl hn,hs]
 rfl

theorem P6 {R:Type} (iB:aw R) (d:Int) (r:List Token) (q:Json→List Token→Int→Option R):cv iB true d r 0 q =
  bH iB [125] r 0 true 7 0 0 [] d (fun y5 y6 y7 y8 y9 xD vu yx=>q ⟨y8,⟨y9,xD⟩,vu, [], []⟩ y5 y6) (fun DS zA FF FG JV Hj PS Nb A7 Tr Rn=>q ⟨FG,⟨JV,Hj⟩,PS,Nb,Rn⟩ DS zA):=rfl
theorem P7 {R:Type} (iB:aw R) (d:Int) (r:List Token) (q:Json→List Token→Int→Option R):cv iB false d r 0 q =
  bH iB [93] r 0 false 6 0 0 [] d (fun y5 y6 y7 y8 y9 xD vu yx=>q ⟨y8,⟨y9,xD⟩,vu, [], []⟩ y5 y6) (fun DS zA FF FG JV Hj PS Nb A7 Tr Rn=>q ⟨FG,⟨JV,Hj⟩,PS,Nb,Rn⟩ DS zA):=rfl

section
variable {R:Type} (iB:aw R) (d:Int) (t:Token) (r:List Token) (k:Json→List Token→Int→Option R)
def J18:Option R:=bif (t.kind==3)then k ⟨4,⟨t.num.aB,t.num.exp⟩, [], [], []⟩ r 0 else k ⟨5,⟨0,0⟩,t.text, [], []⟩ r 0
def WV (z:Bool):Option R:=bif z then (bif (t.kind==4)then k ⟨mw .str (.int .i64) t.text P5,⟨0,0⟩, [], [], []⟩ r 0 else J18 t r k)else J18 t r k
def J17 (z:Bool):Option R:=bif z then (bif (t.kind==1)then cv iB (t.text == [123]) d r 0 (fun yx DS zA=>k ⟨yx.kind,⟨yx.num.aB,yx.num.exp⟩,yx.text,yx.names,yx.items⟩ DS zA)else J18 t r k)
 else (bif (t.text==oz)then WV t r k (t.text==oz)else (bif (t.text==kl)then WV t r k (t.text==kl)else WV t r k (t.text==rL)))
def J19:Option R:=cw (decide ((1:Int)≤((t::r).length:Int))) (bif (t.text == [91])then J17 iB d t r k (t.text == [91])else J17 iB d t r k (t.text == [123]))
def J20 (z:Bool):Option R:=bif (!z)then k ⟨0,⟨0,0⟩, [], [], []⟩ (t::r) 40 else (bif (decide (d>16))then k ⟨0,⟨0,0⟩, [], [], []⟩ (t::r) 41 else J19 iB d t r k)
end

theorem TR {R:Type} (n:Nat) (d:Int) (t:Token) (r:List Token) (k:Json→List Token→Int→Option R):bx (n+1) d (t::r) 0 k=J20 (bx n) d t r k (sw t):=by
 have e0:bx (n+1) d (t::r) 0 k=cw (decide ((0:Int)<((t::r).length:Int))) (let j:=J20 (bx n) d t r k; bif (t.kind==2)then j true else (bif (t.kind==3)then j true else (bif (t.kind==4)then j true else (bif (t.kind==1)then (bif (t.text == [91])then j true else j (t.text == [123]))else j false)))):=rfl
 rw[e0,aL ym]
 unfold sw A3
 simp only
 cases t.kind==2 <;> cases t.kind==3 <;> cases t.kind==4 <;> cases t.kind==1 <;> cases t.text == [91] <;> rfl

theorem TS {x:aj} (h:A3 x=true):B3 x=false:=by
 unfold A3 at h
 rw[Bool.or_eq_true,beq_iff_eq,beq_iff_eq]at h
 rcases h with rfl|rfl <;> rfl

theorem aad {R:Type} (B:Nat) (hBB:B≤100000000):∀(n:Nat) (d:Int),0≤d→d≤17→17 - d<n→Hval (R:=R) (bx n) (xb n d) d B:=by
 intro n
 induction n with
 | zero=>intro d h0 h1 h2; omega
 | succ n ih =>
  intro d h0 h1 h2 ts he hB
  cases ts with
  | nil=>exact (he.ne rfl).elim
  | cons t r =>
   simp only[xb]
   have hv:=fun k=>TR (R:=R) n d t r k
   cases SP:sw t with
   | false =>
    rw[if_pos rfl]
    rw[SP]at hv
    exact ⟨⟨he,by show (_:Int)≠0; simp⟩,_,fun k=>hv k⟩
   | true =>
    rw[if_neg (by simp)]
    rw[SP]at hv
    by_cases hd:d>16
    ·rw[if_pos hd]
     refine ⟨⟨he,by show (_:Int)≠0; simp⟩,⟨0,⟨0,0⟩, [], [], []⟩,fun k => ?_⟩
     rw[hv]
     unfold J20
     have e1:decide (d>16)=true:=by simpa using hd
     rw[e1]
     rfl
    ·rw[if_neg hd]
     have hk5:t.kind≠5:=by
      intro h5
      simp[sw,h5]at SP
     have her:=he.tail hk5
     have hrB:r.length≤B:=by simp only[List.length_cons]at hB; omega
     have VV:∀k,bx (n+1) d (t::r) 0 k=J17 (bx n) d t r k (A3 t.text):=fun k=>by
      rw[hv]
      unfold J20
      have e1:decide (d>16)=false:=by simpa using hd
      rw[e1,Bool.not_true,cond_false,cond_false]
      unfold J19
      rw[aL KW]
      unfold A3
      cases t.text == [91] <;> rfl
     have h18:¬(t.kind=1∧A3 t.text=true)→¬(t.kind=4∧B3 t.text=true)→∀k,bx (n+1) d (t::r) 0 k=J18 t r k:=fun g1 g2 k=>by
      rw[VV]
      unfold J17
      cases ho:A3 t.text with
      | true =>
       have:(t.kind==1)=false:=by
        rw[beq_eq_false_iff_ne]
        exact fun h=>g1 ⟨h,ho⟩
       rw[cond_true,this,cond_false]
      | false =>
       rw[cond_false]
       have Qe:(bif (t.text==oz)then WV t r k (t.text==oz)else (bif (t.text==kl)then WV t r k (t.text==kl)else WV t r k (t.text==rL)))=WV t r k (B3 t.text):=by
        unfold B3
        cases t.text==oz <;> cases t.text==kl <;> rfl
       rw[Qe]
       unfold WV
       cases hn:B3 t.text with
       | false=>rfl
       | true =>
        have:(t.kind==4)=false:=by
         rw[beq_eq_false_iff_ne]
         exact fun h=>g2 ⟨h,hn⟩
        rw[cond_true,this,cond_false]
     by_cases Xb:t.kind=1∧A3 t.text=true
     ·rw[if_pos Xb]
      have ek:(t.kind==1)=true:=by simpa using Xb.1
      have hvp:∀k,bx (n+1) d (t::r) 0 k=cv (bx n) (t.text == [123]) d r 0 k:=fun k=>by
       rw[VV]
       unfold J17
       rw[Xb.2,cond_true,ek,cond_true]
       simp only[Json.eta]
      have iB:=ih (d+1) (by omega) (by omega) (by omega)
      have hfl:=fun ts p=>RS n (d+1) ts p
      cases QU:t.text == [123]with
      | true =>
       simp only[if_true]
       rw[QU]at hvp
       cases hs:lA [125] r with
       | some r' =>
        refine ⟨CE her hs,fun k => ?_⟩
        rw[hvp]
        rw[P6]
        rw[OK _ _ _ _ _ _ _ _ _ _ her.ne hs]
       | none =>
        have hl:=UW (R:=R) _ _ hfl d ⟨h0,by omega⟩ B hBB iB true 7 0 0 [] [125] r her hrB hs
        simp only
        cases hq:yM (xb n (d+1)) [125] true (r.length+1) [] [] r with
        | error q =>
         rw[hq]at hl
         obtain ⟨g1,v,g2⟩:=hl
         refine ⟨g1,v,fun k => ?_⟩
         rw[hvp]
         rw[P6]
         exact g2 _ k
        | ok p =>
         rw[hq]at hl
         obtain ⟨g1,g2⟩:=hl
         refine ⟨g1,fun k => ?_⟩
         rw[hvp]
         rw[P6]
         exact g2 _ k
      | false =>
       simp only[Bool.false_eq_true,if_false]
       rw[QU]at hvp
       cases hs:lA [93] r with
       | some r' =>
        refine ⟨CE her hs,fun k => ?_⟩
        rw[hvp]
        rw[P7]
        rw[OK _ _ _ _ _ _ _ _ _ _ her.ne hs]
       | none =>
        have hl:=UW (R:=R) _ _ hfl d ⟨h0,by omega⟩ B hBB iB false 6 0 0 [] [93] r her hrB hs
        simp only
        cases hq:yM (xb n (d+1)) [93] false (r.length+1) [] [] r with
        | error q =>
         rw[hq]at hl
         obtain ⟨g1,v,g2⟩:=hl
         refine ⟨g1,v,fun k => ?_⟩
         rw[hvp]
         rw[P7]
         exact g2 _ k
        | ok p =>
         rw[hq]at hl
         obtain ⟨g1,g2⟩:=hl
         refine ⟨g1,fun k => ?_⟩
         rw[hvp]
         rw[P7]
         exact g2 _ k
     ·rw[if_neg Xb]
      by_cases Qe:t.kind=4∧B3 t.text=true
      ·rw[if_pos Qe]
       refine ⟨her,fun k => ?_⟩
       rw[VV]
       have ho:A3 t.text=false:=by
        cases ho:A3 t.text with
        | false=>rfl
        | true=>rw[TS ho]at Qe; cases Qe.2
       have ek:(t.kind==4)=true:=by simpa using Qe.1
       unfold J17
       rw[ho,cond_false]
       have IQ:(bif (t.text==oz)then WV t r k (t.text==oz)else (bif (t.text==kl)then WV t r k (t.text==kl)else WV t r k (t.text==rL)))=WV t r k (B3 t.text):=by
        unfold B3
        cases t.text==oz <;> cases t.text==kl <;> rfl
       rw[IQ,Qe.2]
       unfold WV
       rw[ek]
       rfl
      ·rw[if_neg Qe]
       have h:=h18 Xb Qe
       by_cases hk3:t.kind=3
       ·rw[if_pos hk3]
        refine ⟨her,fun k => ?_⟩
        rw[h]
        unfold J18
        have ek:(t.kind==3)=true:=by simpa using hk3
        rw[ek]
        rfl
       ·rw[if_neg hk3]
        refine ⟨her,fun k => ?_⟩
        rw[h]
        unfold J18
        have ek:(t.kind==3)=false:=by simpa using hk3
        rw[ek]
        rfl


end Go.Proofs.YtmlkkgfenfdndaaGreatDoor

/-
 Functions of the program as pure Lean functions, and the ties; printed by wip/tools/emit.py.
-/
set_option maxRecDepth 100000
namespace Go.Proofs.YtmlkkgfenfdndaaGreatDoor
open Go Go.aF

end Go.Proofs.YtmlkkgfenfdndaaGreatDoor

set_option maxRecDepth 100000
namespace Go.Proofs.YtmlkkgfenfdndaaGreatDoor
open Go Go.aF Go.Lib

theorem OL:∀(n p:Nat) (s:aj) (out:List Token),(vy n p s out).1.length≤out.length+s.length+1
 | 0,_,_,_=>by simp[vy]
 | n+1,p,s,out=>by
  simp only[vy]
  split
  ·simp <;> omega
  ·split
   ·simp
   ·rename_i t r hr
    have h1:=(tokS_sfx hr).2
    have h2:=yh qp s
    have h3:=OL n (p+(s.length - r.length)) r (out ++ [putT t ((p+(s.takeWhile qp).length:Nat):Int)])
    rw[List.length_append,List.length_cons,List.length_nil]at h3
    omega

theorem WW (s:aj):(s9 s).1.length≤20002:=by
 unfold s9
 split
 ·simp
 ·have:=OL (s.length+1) 0 s []
  simp at this
  omega

end Go.Proofs.YtmlkkgfenfdndaaGreatDoor

/-
 Functions of the program as pure Lean functions, and the ties; printed by wip/tools/emit.py.
-/
set_option maxRecDepth 100000
namespace Go.Proofs.YtmlkkgfenfdndaaGreatDoor
open Go Go.aF

/-! ### humpyard/humpyardlaw03.pick -/
abbrev qY (R:Type):Type:=Int→Int→(Int→Option R)→Option R
abbrev DC:List ck := [.leaf (.int .i64), .leaf (.int .i64)]
abbrev DE:List aN := []
def GA {R:Type} (fn:qY R):ck.aH DC→aN.aH DE→(V→aG→Option R)→Option R:=fun x y k=>fn x.1 x.2.1 (fun q0=>k (.int .i64 q0) [])
def IK {R:Type} (fn:qY R):aF.Spec R→aF.Spec R:=bj DC DE (GA fn)
def IL {R:Type} (x1:Int) (x2:Int) (k0:Int→Option R):Option R :=
 bif (decide (x1<(0:Int)))then (cw (!decide (x2=0)) (k0 (Int.tmod (IntKind.i64.wrap (0 - (IntKind.i64.wrap (x1+1)))) x2)))else (cw (!decide (x2=0)) (k0 (Int.tmod x1 x2)))
def kC {R:Type}:qY R:=fun x1 x2 k0=>IL x1 x2 k0
theorem NO {R:Type}:gR (R:=R) tt [] xw false Tryz.f27 (bb Tryz.f27) DC DE (GA IL):=fun x y k=>by kernel_rfl
theorem KE (R:Type):rR Tryz.prog 27 (IK (kC (R:=R))):=cQ TT mixed .n rfl rfl rfl rfl dV (NO)

/-! ### humpyard/humpyardlaw03.Word -/
abbrev B4 (R:Type):Type:=Hk→(aj→Option R)→Option R
abbrev DF:List ck := [.agg [.int .i64, .int .i64, .int .i64, .sl (.int .i64)]]
abbrev DG:List aN := []
def GB {R:Type} (fn:B4 R):ck.aH DF→aN.aH DG→(V→aG→Option R)→Option R:=fun x y k=>fn (⟨x.1.1,x.1.2.1,x.1.2.2.1,x.1.2.2.2.1⟩:Hk) (fun q0=>k (.str q0) [])
def P8 {R:Type} (fn:B4 R):aF.Spec R→aF.Spec R:=bj DF DG (GB fn)
def IM {R:Type} (bU:gu R) (cd:gl R) (di:jY R) (bc:ez R) (kC:qY R):List (uI R) := [(37,true,(C8 bU aZ)),(26,true,(yk cd aZ)),(28,true,(EJ di aZ)),(46,true,(uK bc aZ)),(27,true,(IK kC aZ))]
theorem MT {R:Type}:eU (R:=R) Tryz.prog (IM bU cd di bc kC) := .p (DQ R _ (aK _)) <| .p (xJ R _ (aK _)) <| .p (EM R _ (aK _)) <| .p (uX R _ (aK _)) <| .p (KE R _ (aK _)) <| .n
def IN {R:Type} (bU:gu R) (cd:gl R) (di:jY R) (bc:ez R) (kC:qY R) (x1:Hk) (k0:aj→Option R):Option R :=
 kC x1.kind 4 (fun y2=>bif (y2==0)then (kC x1.aB 6 (fun y3=>cw (decide ((0:Int)≤y3)&&decide (y3<(6:Int))) (k0 (([([123]:aj),([125]:aj),([91]:aj),([93]:aj),([44]:aj),([58]:aj)]:List aj).getD y3.toNat (Ty.bY .str)))))else (bif (y2==1)then (cw (decide ((0:Int)≤(min (x1.text.length:Int) 30))&&decide ((min (x1.text.length:Int) 30)≤x1.text.length)) (cw (decide ((0:Int)≤(min (x1.text.length:Int) 30))) (bU ((x1.text.drop 0).take ((min (x1.text.length:Int) 30).toNat - 0)) (fun y4=>cd y4 (fun y5 y6=>k0 y5)))))else (bif (y2==2)then (di x1.aB x1.exp (fun y7=>bc y7 (fun y8=>k0 y8)))else (kC x1.aB 3 (fun y9=>cw (decide ((0:Int)≤y9)&&decide (y9<(3:Int))) (k0 (([([116,114,117,101]:aj),([102,97,108,115,101]:aj),([110,117,108,108]:aj)]:List aj).getD y9.toNat (Ty.bY .str))))))))
def MU {R:Type}:B4 R:=fun x1 k0=>IN bU cd di bc kC x1 k0
theorem NP {R:Type} (bU:gu R) (cd:gl R) (di:jY R) (bc:ez R) (kC:qY R):gR (R:=R) tt (IM bU cd di bc kC) xw false Tryz.f24 (bb Tryz.f24) DF DG (GB (IN bU cd di bc kC)):=fun x y k=>by kernel_rfl
theorem Xn (R:Type):rR Tryz.prog 24 (P8 (MU (R:=R))):=cQ TT mixed (MT (R:=R)) rfl rfl rfl rfl dV (NP bU cd di bc kC)

end Go.Proofs.YtmlkkgfenfdndaaGreatDoor

set_option maxRecDepth 100000
namespace Go.Proofs.YtmlkkgfenfdndaaGreatDoor
open Go Go.aF Go.Lib

structure RawW (R:Type) (x:Hk) (p:aj × Token):Prop where
 word:Word p.1 p.2
 len:p.1.length≤182
 run:∀k:aj→Option R,MU x k=k p.1
 kind:∃q:Int,p.2.kind=1+q∧0≤q∧q<4∧∀k:Int→Option R,kC x.kind 4 k=k q
 text:p.2.kind=2→∀k:aj→Bool→Option R,cd p.2.text k=k p.1 true
 other:p.2.kind≠2→p.2.text=p.1
 num:p.2.kind=3→∀k:iC→Option R,di x.aB x.exp k=k p.2.num

end Go.Proofs.YtmlkkgfenfdndaaGreatDoor

/-
 Functions of the program as pure Lean functions, and the ties; printed by wip/tools/emit.py.
-/
set_option maxRecDepth 100000
namespace Go.Proofs.YtmlkkgfenfdndaaGreatDoor
open Go Go.aF

end Go.Proofs.YtmlkkgfenfdndaaGreatDoor

set_option maxRecDepth 100000
namespace Go.Proofs.YtmlkkgfenfdndaaGreatDoor
open Go Go.aF Go.Lib

def Qf (t:Token):Int × aj × iC:=(t.kind,t.text,t.num)
theorem tokW_st:∀(l:List oA) (p:Nat),(tokW p l).map Qf=l.map fun x=>Qf x.2.2
 | [],_=>rfl
 | x::l,p=>by simp only[tokW,List.map_cons,tokW_st l]; rfl


theorem OM:∀(n p:Nat) (s:aj) (out:List Token),s.length<n→(vy n p s out).2.1=0→zw (vy n p s out).1
 | 0,_,_,_,h,_=>by omega
 | n+1,p,s,out,h,he=>by
  simp only[vy]at he ⊢
  by_cases hd:s.dropWhile qp = []
  ·rw[if_pos hd]
   exact ⟨_,List.getLast?_concat ..,rfl⟩
  ·rw[if_neg hd]at he ⊢
   cases hr:tokS (s.dropWhile qp)with
   | none=>rw[hr]at he; cases he
   | some q =>
    obtain ⟨t,r⟩:=q
    rw[hr]at he
    have h3:=(tokS_sfx hr).2
    have h4:=yh qp s
    exact OM n _ r _ (by omega) he
theorem WX (s:aj) (he:(s9 s).2.1=0):zw (s9 s).1:=by
 unfold s9 at he ⊢
 split at he
 ·cases he
 ·rename_i h
  rw[if_neg h]
  exact OM _ _ _ _ (by omega) he

def JA (s:aj):Json × Int × Int :=
 if (s9 s).2.1≠0 then (⟨0,⟨0,0⟩, [], [], []⟩,(s9 s).2.1,(s9 s).2.2)else
 match xb 40 1 (s9 s).1 with
 | .error b=>(⟨0,⟨0,0⟩, [], [], []⟩,b.1,(b.2.getD 0 ⟨0, [],⟨0,0⟩,0⟩).at_)
 | .ok (v,r)=>if (r.getD 0 ⟨0, [],⟨0,0⟩,0⟩).kind≠5 then (⟨0,⟨0,0⟩, [], [], []⟩,40,(r.getD 0 ⟨0, [],⟨0,0⟩,0⟩).at_)else (v,0,0)

theorem WY {R:Type} (s:aj) (k:Json→Int→Int→Option R):kv s k=k (JA s).1 (JA s).2.1 (JA s).2.2:=by
 have e0:kv s k=Ap ak cK km s k:=rfl
 rw[e0]
 unfold Ap JA
 rw[scan_ok]
 by_cases h:(s9 s).2.1=0
 rotate_left
 ·have e1:((s9 s).2.1 != 0)=true:=by simpa using h
  rw[if_pos h,e1]
  rfl
 have e1:((s9 s).2.1 != 0)=false:=by simpa using h
 rw[if_neg (by simpa using h),e1,cond_false]
 have hE:=WX s h
 have hL:=WW s
 have hv:=aad (R:=R) 20002 (by omega) 40 1 (by omega) (by omega) (by omega) (s9 s).1 hE hL
 have e2:∀q,cK (R:=R) 1 (s9 s).1 0 q=bx 40 1 (s9 s).1 0 q:=fun q=>rfl
 rw[e2]
 cases hq:xb 40 1 (s9 s).1 with
 | error b =>
  rw[hq]at hv
  obtain ⟨⟨g1,g2⟩,v,g3⟩:=hv
  rw[g3]
  obtain ⟨c,r⟩:=b
  cases r with
  | nil=>exact (g1.ne rfl).elim
  | cons t r =>
   have e3:(c != 0)=true:=by simpa using g2
   have hf:∀q:List Token→Int→Option R,ak 40 (t::r) c q=q (t::r) c:=fun q=>by
    show (bif c==0 then q (t::r) 40 else q (t::r) c)=_
    have e4:(c==0)=false:=by simpa using g2
    rw[e4]; rfl
   rw[aL ym]
   simp only[hf]
   have hz:∀z:Bool,(bif z then (bif (c != 0)then cw (decide ((0:Int)<((t::r).length:Int))) (k ⟨0,⟨0,0⟩, [], [], []⟩ c t.at_)else k v 0 0)else (bif (c != 0)then cw (decide ((0:Int)<((t::r).length:Int))) (k ⟨0,⟨0,0⟩, [], [], []⟩ c t.at_)else k v 0 0))=k ⟨0,⟨0,0⟩, [], [], []⟩ c t.at_:=fun z=>by
    rw[e3,aL ym]
    cases z <;> rfl
   have:=hz (t.kind != 5)
   obtain ⟨kd,⟨n1,n2⟩,tx,ns,is⟩:=v
   exact this
 | ok p =>
  rw[hq]at hv
  obtain ⟨g1,g2⟩:=hv
  obtain ⟨v,r⟩:=p
  rw[g2]
  cases r with
  | nil=>exact (g1.ne rfl).elim
  | cons t r =>
   rw[aL ym]
   by_cases hk:t.kind=5
   ·have e3:(t.kind != 5)=false:=by simpa using hk
    have:((((v,t::r):Json × List Token).2).getD 0 (Ty.bY .token)).kind=t.kind:=rfl
    show (bif (t.kind != 5)then _ else _)=_
    rw[e3,cond_false]
    obtain ⟨kd,⟨n1,n2⟩,tx,ns,is⟩:=v
    show k ⟨kd,⟨n1,n2⟩,tx,ns,is⟩ 0 0=_
    have qA:¬(((t::r).getD 0 ⟨0, [],⟨0,0⟩,0⟩).kind≠5):=fun h=>h hk
    simp only
    rw[if_neg qA]
   ·have e3:(t.kind != 5)=true:=by simpa using hk
    show (bif (t.kind != 5)then _ else _)=_
    rw[e3,cond_true]
    show cw (decide ((0:Int)<((t::r).length:Int))) (k ⟨0,⟨0,0⟩, [], [], []⟩ 40 t.at_)=_
    rw[aL ym]
    have qA:(((t::r).getD 0 ⟨0, [],⟨0,0⟩,0⟩).kind≠5):=hk
    simp only
    rw[if_pos qA]
    rfl

def TU (x:oA):Int × aj × iC:=Qf x.2.2
theorem DH {ts:List Token} {x:oA} {l:List oA} (h:ts.map Qf=(x::l).map TU):∃t r,ts=t::r∧Qf t=TU x∧r.map Qf=l.map TU:=by
 cases ts with
 | nil=>cases h
 | cons t r =>
  simp only[List.map_cons,List.cons.injEq]at h
  exact ⟨t,r,rfl,h.1,h.2⟩
theorem P9 {ts:List Token} {a b:List oA} (h:ts.map Qf=(a++b).map TU):∃u v,ts=u++v∧u.map Qf=a.map TU∧v.map Qf=b.map TU:=by
 rw[List.map_append]at h
 obtain ⟨u,v,e,h1,h2⟩:=List.map_eq_append_iff.1 h
 exact ⟨u,v,e,h1,h2⟩
theorem MV {ts:List Token} {x:oA} (h:ts.map Qf = [x].map TU):∃t,ts = [t]∧Qf t=TU x:=by
 obtain ⟨t,r,e,h1,h2⟩:=DH h
 cases r with
 | nil=>exact ⟨t,e,h1⟩
 | cons u r=>cases h2
theorem wV {t:Token} {x:oA} (h:Qf t=TU x):t.kind=x.2.2.kind∧t.text=x.2.2.text∧t.num=x.2.2.num:=by
 unfold TU Qf at h
 simp only[Prod.mk.injEq]at h
 exact h

theorem aae {n:Nat} {d:Int} (hd:d≤16) {t:Token} {rest:List Token} {x:aj} (hx:x=oz∨x=kl∨x=rL) (hk:t.kind=4) (ht:t.text=x) :
  xb (n+1) d (t::rest) = .ok (⟨mw .str (.int .i64) x P5,⟨0,0⟩, [], [], []⟩,rest):=by
 have h1:sw t=true:=by simp[sw,hk]
 have h2:B3 t.text=true:=by
  rw[ht]
  rcases hx with rfl|rfl|rfl <;> rfl
 simp only[xb]
 rw[if_neg (by rw[h1]; simp),if_neg (by omega),if_neg (by rw[hk]; simp),if_pos ⟨hk,h2⟩,ht]

theorem WZ {n:Nat} {d:Int} {ts:List Token} {p:Json × List Token} (h:xb n d ts = .ok p):lA [93] ts=none∧lA [125] ts=none:=by
 cases n with
 | zero=>cases h
 | succ n =>
  cases ts with
  | nil=>cases h
  | cons t r =>
   simp only[xb]at h
   by_cases hs:sw t=false
   ·rw[if_pos hs]at h; cases h
   ·have jc:∀x:aj,x = [93]∨x = [125]→¬(t.kind=1∧t.text=x):=fun x hx ⟨h1,h2⟩=>by
     apply hs
     rcases hx with rfl|rfl <;> simp[sw,A3,h1,h2]
    simp only[lA]
    rw[if_neg (jc _ (.inl rfl)),if_neg (jc _ (.inr rfl))]
    exact ⟨rfl,rfl⟩

mutual
theorem Hf:∀(v:Json) (d:Int) (n:Nat) (ts rest:List Token),fI v d=true→17 - d<n→ts.map Qf=(qs v).map TU→xb n d (ts++rest) = .ok (v,rest)
 | ⟨k,nm,t,ns,is⟩,d,0,ts,rest,h,hn,hw=>by
  have:d≤16:=by
   cases lr.1 h <;> assumption
  omega
 | ⟨k,nm,t,ns,is⟩,d,n+1,ts,rest,h,hn,hw=>by
  have hL:=RT is
  have hO:=RU ns is
  cases lr.1 h with
  | name _ _ hd hk =>
   have HJ:∀x:aj,(x=oz∨x=kl∨x=rL)→ts.map Qf = [(([],x,⟨4,x,⟨0,0⟩,0⟩):oA)].map TU→xb (n+1) d (ts++rest) = .ok (⟨mw .str (.int .i64) x P5,⟨0,0⟩, [], [], []⟩,rest):=fun x hx hw=>by
    obtain ⟨u,rfl,hu⟩:=MV hw
    obtain ⟨h1,h2,_⟩:=wV hu
    exact aae hd hx h1 h2
   rcases hk with rfl|rfl|rfl
   ·exact HJ oz (.inl rfl) hw
   ·exact HJ kl (.inr (.inl rfl)) hw
   ·exact HJ rL (.inr (.inr rfl)) hw
  | num _ _ hd Qe =>
   obtain ⟨u,rfl,hu⟩:=MV (x:=([],yK nm,⟨3,yK nm,nm,0⟩)) hw
   obtain ⟨h1,h2,h3⟩:=wV hu
   simp only at h1 h2 h3
   have hs:sw u=true:=by simp[sw,h1]
   show xb (n+1) d (u::rest)=_
   simp only[xb]
   rw[if_neg (by rw[hs]; simp),if_neg (by omega),if_neg (by rw[h1]; simp),if_neg (by rw[h1]; simp),if_pos h1,h3]
  | text _ _ hd ht =>
   obtain ⟨u,rfl,hu⟩:=MV (x:=TK t) hw
   obtain ⟨h1,h2,h3⟩:=wV hu
   simp only[TK]at h1 h2 h3
   have hs:sw u=true:=by simp[sw,h1]
   show xb (n+1) d (u::rest)=_
   simp only[xb]
   rw[if_neg (by rw[hs]; simp),if_neg (by omega),if_neg (by rw[h1]; simp),if_neg (by rw[h1]; simp),if_neg (by rw[h1]; simp),h2]
  | arr _ _ hd hi =>
   obtain ⟨u,KD,rfl,hu,hw2⟩:=DH (x:=sg 91) (l:=oW is true ++ [sg 93]) hw
   obtain ⟨tl,tc,rfl,hl,Hh⟩:=P9 hw2
   obtain ⟨c,rfl,hc⟩:=MV Hh
   obtain ⟨h1,h2,_⟩:=wV hu
   obtain ⟨c1,c2,_⟩:=wV hc
   simp only[sg]at h1 h2 c1 c2
   have DZ:A3 u.text=true:=by rw[h2]; rfl
   have hs:sw u=true:=by simp[sw,h1,DZ]
   have ho7:(u.text==([123]:aj))=false:=by rw[h2]; rfl
   show xb (n+1) d (u::(tl ++ [c]++rest))=_
   simp only[xb]
   rw[if_neg (by rw[hs]; simp),if_neg (by omega),if_pos ⟨h1,DZ⟩,ho7]
   simp only[Bool.false_eq_true,if_false]
   cases is with
   | nil =>
    obtain rfl:tl = []:=by simpa [oW]using hl
    show (match lA [93] (c::rest)with|some r'=>_|none=>_)=_
    have:lA [93] (c::rest)=some rest:=by
     show (if c.kind=1∧c.text = [93]then some rest else none)=some rest
     rw[if_pos ⟨c1,c2⟩]
    rw[this]
   | cons x l =>
    obtain ⟨e1,e2⟩:=hL d n (tl ++ [c]++rest).length.succ [] [] tl c rest (by simp) hi (by omega) (by simp; omega) hl c1 c2
    rw[e1,e2]
    rfl
  | obj _ _ _ hd hlen hu7 hi =>
   obtain ⟨u,KD,rfl,hu,hw2⟩:=DH (x:=sg 123) (l:=ml ns is true ++ [sg 125]) hw
   obtain ⟨tl,tc,rfl,hl,Hh⟩:=P9 hw2
   obtain ⟨c,rfl,hc⟩:=MV Hh
   obtain ⟨h1,h2,_⟩:=wV hu
   obtain ⟨c1,c2,_⟩:=wV hc
   simp only[sg]at h1 h2 c1 c2
   have DZ:A3 u.text=true:=by rw[h2]; rfl
   have hs:sw u=true:=by simp[sw,h1,DZ]
   have ho7:(u.text==([123]:aj))=true:=by rw[h2]; rfl
   show xb (n+1) d (u::(tl ++ [c]++rest))=_
   simp only[xb]
   rw[if_neg (by rw[hs]; simp),if_neg (by omega),if_pos ⟨h1,DZ⟩,ho7]
   simp only[if_true]
   cases is with
   | nil =>
    obtain rfl:ns = []:=List.eq_nil_of_length_eq_zero hlen
    obtain rfl:tl = []:=by simpa [ml]using hl
    show (match lA [125] (c::rest)with|some r'=>_|none=>_)=_
    have:lA [125] (c::rest)=some rest:=by
     show (if c.kind=1∧c.text = [125]then some rest else none)=some rest
     rw[if_pos ⟨c1,c2⟩]
    rw[this]
   | cons x l =>
    obtain ⟨e1,e2⟩:=hO d n (tl ++ [c]++rest).length.succ [] [] [] tl c rest (by simp) hlen hi hu7 (fun n=>rfl) (by omega) (by simp; omega) hl c1 c2
    rw[e1,e2]
    rfl
theorem RT:∀(is:List Json) (d:Int) (n m:Nat) (Qg:List aj) (R6:List Json) (tl:List Token) (c:Token) (rest:List Token),is ≠ []→fJ is (d+1)=true→17 - (d+1)<n→tl.length<m →
  tl.map Qf=(oW is true).map TU→c.kind=1→c.text = [93]→lA [93] (tl ++ [c]++rest)=none∧yM (xb n (d+1)) [93] false m Qg R6 (tl ++ [c]++rest) = .ok ((Qg,R6++is),rest)
 | [],_,_,_,_,_,_,_,_,h,_,_,_,_,_,_=>(h rfl).elim
 | x::l,d,n,0,Qg,R6,tl,c,rest,_,hr,hn,hm,hw,c1,c2=>by omega
 | x::l,d,n,m+1,Qg,R6,tl,c,rest,_,hr,hn,hm,hw,c1,c2=>by
  obtain ⟨tv,tr,rfl,hv,ht⟩:=P9 (a:=qs x) (b:=oW l false) hw
  simp only[fJ,Bool.and_eq_true]at hr
  have hx:=Hf x (d+1) n tv (tr ++ [c]++rest) hr.1 hn hv
  have hL:=RT l
  rw[show tv++tr ++ [c]++rest=tv++(tr ++ [c]++rest) by simp]
  refine ⟨(WZ hx).1,?_⟩
  have hp:zN (xb n (d+1)) false Qg R6 (tv++(tr ++ [c]++rest)) = .ok ((Qg,R6 ++ [x]),tr ++ [c]++rest):=by
   simp only[zN,hx]
  simp only[yM,hp]
  cases l with
  | nil =>
   obtain rfl:tr = []:=by simpa [oW]using ht
   have:lA [93] ([] ++ [c]++rest)=some rest:=by
    show (if c.kind=1∧c.text = [93]then some rest else none)=some rest
    rw[if_pos ⟨c1,c2⟩]
   rw[this]
  | cons y l' =>
   obtain ⟨u,W0,rfl,hu,ht'⟩:=DH (x:=sg 44) (l:=oW (y::l') true) ht
   obtain ⟨u1,u2,_⟩:=wV hu
   simp only[sg]at u1 u2
   have s1:lA [93] (u::W0 ++ [c]++rest)=none:=by
    show (if u.kind=1∧u.text = [93]then some (W0 ++ [c]++rest)else none)=none
    rw[if_neg (by rw[u2]; rintro ⟨_,h⟩; cases h)]
   have s2:lA [44] (u::W0 ++ [c]++rest)=some (W0 ++ [c]++rest):=by
    show (if u.kind=1∧u.text = [44]then some (W0 ++ [c]++rest)else none)=_
    rw[if_pos ⟨u1,u2⟩]
   rw[s1,s2]
   obtain ⟨_,e2⟩:=hL d n m Qg (R6 ++ [x]) W0 c rest (by simp) hr.2 hn (by simp at hm; omega) ht' c1 c2
   simp only
   rw[e2]
   simp
theorem RU:∀(ns:List aj) (is:List Json) (d:Int) (n m:Nat) (Qg:List aj) (R6:List Json) (seen:List aj) (tl:List Token) (c:Token) (rest:List Token),is ≠ []→ns.length=is.length→fJ is (d+1)=true→vz seen ns=true→(∀n,Qg.contains n=seen.contains n) →
  17 - (d+1)<n→tl.length<m →
  tl.map Qf=(ml ns is true).map TU→c.kind=1→c.text = [125]→lA [125] (tl ++ [c]++rest)=none∧yM (xb n (d+1)) [125] true m Qg R6 (tl ++ [c]++rest) = .ok ((Qg++ns,R6++is),rest)
 | _, [],_,_,_,_,_,_,_,_,_,h,_,_,_,_,_,_,_,_,_=>(h rfl).elim
 | [],x::l,d,n,m,Qg,R6,seen,tl,c,rest,_,hlen,hr,hu,hsn,hn,hm,hw,c1,c2=>by cases hlen
 | nm::ns,x::l,d,n,0,Qg,R6,seen,tl,c,rest,_,hlen,hr,hu,hsn,hn,hm,hw,c1,c2=>by omega
 | nm::ns,x::l,d,n,m+1,Qg,R6,seen,tl,c,rest,_,hlen,hr,hu,hsn,hn,hm,hw,c1,c2=>by
  obtain ⟨tn,tl1,rfl,hn1,hw1⟩:=DH (x:=TK nm) (l:=sg 58::(qs x++ml ns l false)) hw
  obtain ⟨tk,tl2,rfl,VO,hw2⟩:=DH hw1
  obtain ⟨tv,tr,rfl,hv,ht⟩:=P9 hw2
  obtain ⟨n1,n2,_⟩:=wV hn1
  obtain ⟨k1,k2,_⟩:=wV VO
  simp only[TK]at n1 n2
  simp only[sg]at k1 k2
  simp only[fJ,Bool.and_eq_true]at hr
  simp only[vz,Bool.and_eq_true,Bool.not_eq_true']at hu
  have hx:=Hf x (d+1) n tv (tr ++ [c]++rest) hr.1 hn hv
  have hO:=RU ns l
  rw[show tn::tk::(tv++tr) ++ [c]++rest=tn::tk::(tv++(tr ++ [c]++rest)) by simp]
  refine ⟨?_,?_⟩
  ·show (if tn.kind=1∧tn.text = [125]then some _ else none)=none
   rw[if_neg (by rw[n1]; rintro ⟨h,_⟩; cases h)]
  have Qe:Gz Qg (tn::tk::(tv++(tr ++ [c]++rest))) = .ok (nm,tv++(tr ++ [c]++rest)):=by
   simp only[Gz]
   rw[if_neg (by rw[n1]; simp),if_neg (by rw[n2,hsn,hu.1.1]; simp)]
   have:lA [58] (tk::(tv++(tr ++ [c]++rest)))=some (tv++(tr ++ [c]++rest)):=by
    show (if tk.kind=1∧tk.text = [58]then some (tv++(tr ++ [c]++rest))else none)=_
    rw[if_pos ⟨k1,k2⟩]
   rw[this,n2]
  have hp:zN (xb n (d+1)) true Qg R6 (tn::tk::(tv++(tr ++ [c]++rest))) = .ok ((Qg ++ [nm],R6 ++ [x]),tr ++ [c]++rest):=by
   simp only[zN,Qe,hx]
  simp only[yM,hp]
  cases l with
  | nil =>
   obtain rfl:ns = []:=List.eq_nil_of_length_eq_zero (by simpa using hlen)
   obtain rfl:tr = []:=by simpa [ml]using ht
   have:lA [125] ([] ++ [c]++rest)=some rest:=by
    show (if c.kind=1∧c.text = [125]then some rest else none)=some rest
    rw[if_pos ⟨c1,c2⟩]
   rw[this]
  | cons y l' =>
   obtain ⟨u,W0,rfl,R3,ht'⟩:=DH (x:=sg 44) (l:=ml ns (y::l') true) ht
   obtain ⟨u1,u2,_⟩:=wV R3
   simp only[sg]at u1 u2
   have s1:lA [125] (u::W0 ++ [c]++rest)=none:=by
    show (if u.kind=1∧u.text = [125]then some (W0 ++ [c]++rest)else none)=none
    rw[if_neg (by rw[u2]; rintro ⟨_,h⟩; cases h)]
   have s2:lA [44] (u::W0 ++ [c]++rest)=some (W0 ++ [c]++rest):=by
    show (if u.kind=1∧u.text = [44]then some (W0 ++ [c]++rest)else none)=_
    rw[if_pos ⟨u1,u2⟩]
   rw[s1,s2]
   obtain ⟨_,e2⟩:=hO d n m (Qg ++ [nm]) (R6 ++ [x]) (nm::seen) W0 c rest (by simp) (by simpa using hlen) hr.2 hu.2 (fun z=>by
    rw[List.contains_append,hsn,List.contains_cons,List.contains_cons,List.contains_nil,Bool.or_false,Bool.or_comm]) hn (by simp at hm; omega) ht' c1 c2
   simp only
   rw[e2]
   simp
end

theorem RV {v:Json} (h:fI v 1=true) (ts:List Token) (rest:List Token) (hw:ts.map Qf=(qs v).map TU):xb 40 1 (ts++rest) = .ok (v,rest):=Hf v 1 40 ts rest h (by omega) hw

theorem RW {v:Json} (h:fI v 1=true) (hl:(gk v).length≤20000):JA (gk v)=(v,0,0):=by
 have ZX:=FL v []
 rw[List.append_nil]at ZX
 have qy:=IB v 1 h [] (.inl rfl)
 have hlen:=MA (qs v) []
 have hs:=RM (qs v) [] (by simp) qy (by rw[ZX]at hlen; simp at hlen ⊢; omega)
 rw[ZX]at hs
 have hv:=RV h (tokW 0 (qs v)) [⟨5, [],⟨0,0⟩,((Fk (qs v)+0:Nat):Int)⟩] (tokW_st _ _)
 unfold JA
 rw[hs]
 simp only[ne_eq,not_true_eq_false,if_false,List.length_nil]
 rw[hv]
 rfl

def tight (l:List oA):Prop:=∀x∈l,x.1 = []
mutual
theorem aaf:∀v:Json,tight (qs v)
 | ⟨k,n,t,ns,is⟩=>by
  have hL:=aag is
  have hO:=aah ns is
  intro x hx
  simp only[qs]at hx
  split at hx
  ·simp at hx; rw[hx]
  split at hx
  ·simp at hx; rw[hx]
  split at hx
  ·simp at hx; rw[hx]
  split at hx
  ·simp at hx; rw[hx]
  split at hx
  ·simp[TK]at hx; rw[hx]
  split at hx
  ·simp only[List.mem_cons,List.mem_append,List.not_mem_nil,or_false]at hx
   rcases hx with rfl|hx|rfl
   ·rfl
   ·exact hO true x hx
   ·rfl
  ·simp only[List.mem_cons,List.mem_append,List.not_mem_nil,or_false]at hx
   rcases hx with rfl|hx|rfl
   ·rfl
   ·exact hL true x hx
   ·rfl
theorem aag:∀(l:List Json) (first:Bool),tight (oW l first)
 | [],_=>by intro x hx; simp[oW]at hx
 | y::l,first=>by
  have h1:=aaf y
  have h2:=aag l false
  intro x hx
  simp only[oW,List.mem_append]at hx
  rcases hx with hx|hx|hx
  ·cases first
   ·simp at hx; rw[hx]; rfl
   ·simp at hx
  ·exact h1 x hx
  ·exact h2 x hx
theorem aah:∀(ns:List aj) (l:List Json) (first:Bool),tight (ml ns l first)
 | _, [],_=>by intro x hx; simp[ml]at hx
 | ns,y::l,first=>by
  have h1:=aaf y
  have h2:=aah ns.tail l false
  intro x hx
  simp only[ml,List.mem_append,List.mem_cons]at hx
  rcases hx with hx|rfl|rfl|hx|hx
  ·cases first
   ·simp at hx; rw[hx]; rfl
   ·simp at hx
  ·rfl
  ·rfl
  ·exact h1 x hx
  ·exact h2 x hx
end

theorem RX (v:Json) (h:fI v 1=true):gk v ≠ []:=by
 intro e
 have h1:=FL v []
 rw[List.append_nil,e]at h1
 have qy:=IB v 1 h [] (.inl rfl)
 have hv:=RV h (tokW 0 (qs v)) [] (tokW_st _ _)
 cases hw:qs v with
 | nil=>rw[hw]at hv; cases hv
 | cons x l =>
  rw[hw]at h1 qy
  obtain ⟨_,⟨c,u,hc,_⟩,_⟩:=qy
  simp[qq,hc]at h1

theorem wq {R:Type} (t s:aj) (hv:gE t=true) (ht:t.length≤10000000000) (hl:(s++MC t).length≤100000000000) (k:List Int→Option R):az t (zs s) k=k (zs (s++MC t)):=by
 obtain ⟨rs,hr,hc,rfl,_,hq⟩|⟨h,_⟩:=Oy (R:=R) t ht
 ·have e:az (cz rs) (zs s) k=cd (cz rs) (fun y3 y4=>ae y3 (zs s) (fun y5 y6=>k y6)):=rfl
  rw[KV hr]at hl ⊢
  rw[List.length_append]at hl
  rw[e,hq]
  exact ws (qt rs) s (by omega) (by unfold Ib; omega) _
 ·rw[hv]at h; cases h

def yN (v:Json) (i:Nat):aj:=if v.kind=7 then lT (v.names.drop i) (v.items.drop i) (i==0)else mj (v.items.drop i) (i==0)

theorem MW {R:Type} (f:bD R) (z:aj) (v:Json) (hl:v.items.length≤1099511627776) (h7:v.kind=7→v.names.length=v.items.length∧∀t∈v.names,gE t=true∧t.length≤10000000000)
  (hf:∀x∈v.items,∀(s:aj) (k:List Int→Option R),(s++gk x).length≤100000000000→f x (zs s) k=k (zs (s++gk x))) (e0:aj→List Int→Option R):∀(F i:Nat) (s:aj),i≤v.items.length→v.items.length - i<F→(s++yN v i).length≤100000000000 →
  aR f F z v.items (v.items.length:Int) (i:Int) (zs s) v e0=e0 z (zs (s++yN v i)):=by
 intro F
 induction F with
 | zero=>intro i s _ h; omega
 | succ F ih =>
  intro i s hi hF hb
  have eL:aR f (F+1) z v.items (v.items.length:Int) (i:Int) (zs s) v e0=iq ad f az (fun kN kO lN th BT Dk=>aR f F kN kO lN th BT Dk e0) z v.items (v.items.length:Int) (i:Int) (zs s) v e0:=rfl
  rw[eL]
  unfold iq
  simp only[Json.eta]
  by_cases h:i<v.items.length
  rotate_left
  ·have h1:decide ((i:Int)<(v.items.length:Int))=false:=by simp; omega
   rw[h1,cond_false]
   have hd:v.items.drop i = []:=List.drop_eq_nil_of_le (by omega)
   have:yN v i = []:=by
    unfold yN
    rw[hd]
    split
    ·cases v.names.drop i <;> rfl
    ·rfl
   rw[this,List.append_nil]
  have h1:decide ((i:Int)<(v.items.length:Int))=true:=by simp; omega
  have h2:(decide ((0:Int)≤(i:Int))&&true)=true:=by simp
  have hw:IntKind.i64.wrap ((i:Int)+1)=((i+1:Nat):Int):=by rw[dx (by omega) (by omega)]; omega
  have hg:v.items.getD (i:Int).toNat (Ty.bY .json)=v.items[i]:=getD_at h _
  have hr:yN v i=(if i=0 then []else [44])++((if v.kind=7 then MC (v.names.getD i []) ++ [58]else [])++(gk v.items[i]++yN v (i+1))):=by
   unfold yN
   rw[List.drop_eq_getElem_cons h]
   by_cases UX:v.kind=7
   ·rw[if_pos UX,if_pos UX,if_pos UX]
    have hn:=(h7 UX).1
    have hni:i<v.names.length:=by omega
    rw[List.drop_eq_getElem_cons hni]
    simp only[lT,List.headD_cons,List.tail_cons]
    have:v.names.getD i []=v.names[i]:=getD_at hni _
    rw[this]
    by_cases h0:i=0
    ·subst h0; simp
    ·have e1:(i==0)=false:=by simpa using h0
     have e2:(i+1==0)=false:=rfl
     rw[e1,e2]
     simp[h0]
   ·rw[if_neg UX,if_neg UX,if_neg UX]
    simp only[mj]
    by_cases h0:i=0
    ·subst h0; simp
    ·have e1:(i==0)=false:=by simpa using h0
     have e2:(i+1==0)=false:=rfl
     rw[e1,e2]
     simp[h0]
  rw[hr]at hb ⊢
  rw[h1,cond_true,aL h2,hg,hw]
  -- from the name on
  have key:∀s':aj,(s'++((if v.kind=7 then MC (v.names.getD i []) ++ [58]else [])++(gk v.items[i]++yN v (i+1)))).length≤100000000000 →
    (bif (v.kind==7)then (cw (decide ((0:Int)≤(i:Int))&&decide ((i:Int)<(v.names.length:Int))) (az (v.names.getD (i:Int).toNat (Ty.bY .str)) (zs s') (fun Jr=>ad 58 Jr (fun IT=>f v.items[i] IT (fun IU=>aR f F z v.items (v.items.length:Int) ((i+1:Nat):Int) IU v e0)))))else (f v.items[i] (zs s') (fun NC=>aR f F z v.items (v.items.length:Int) ((i+1:Nat):Int) NC v e0))) =
    e0 z (zs (s'++((if v.kind=7 then MC (v.names.getD i []) ++ [58]else [])++(gk v.items[i]++yN v (i+1))))):=by
   intro s' oH
   by_cases UX:v.kind=7
   ·rw[if_pos UX]at oH ⊢
    have hk:(v.kind==7)=true:=by simpa using UX
    have hn:=(h7 UX).1
    have hni:i<v.names.length:=by omega
    have hgn:v.names.getD (i:Int).toNat (Ty.bY .str)=v.names.getD i []:=rfl
    have hgi:v.names.getD i []=v.names[i]:=getD_at hni _
    obtain ⟨U8,VV⟩:=(h7 UX).2 v.names[i] (List.getElem_mem hni)
    rw[hk,cond_true,aL (by simp; omega),hgn]
    rw[hgi]at oH ⊢
    have e58:((58:UInt8).toNat:Int)=58:=rfl
    simp only[List.length_append,List.length_cons,List.length_nil]at oH
    rw[wq _ _ U8 VV (by rw[List.length_append]; omega),←e58,wb _ _ (by unfold Ib; rw[List.length_append]; omega),hf _ (List.getElem_mem h) _ _ (by simp only[List.length_append,List.length_cons,List.length_nil]; omega),
     ih (i+1) _ (by omega) (by omega) (by simp only[List.length_append,List.length_cons,List.length_nil]; omega)]
    simp only[List.append_assoc]
   ·rw[if_neg UX]at oH ⊢
    have hk:(v.kind==7)=false:=by simpa using UX
    rw[List.nil_append]at oH ⊢
    simp only[List.length_append]at oH
    rw[hk,cond_false,hf _ (List.getElem_mem h) _ _ (by rw[List.length_append]; omega),ih (i+1) _ (by omega) (by omega) (by simp only[List.length_append]; omega)]
    simp only[List.append_assoc]
  by_cases h0:i=0
  ·subst h0
   rw[if_pos rfl,List.nil_append]at hb ⊢
   exact key s hb
  ·rw[if_neg h0]at hb ⊢
   have e3:decide ((i:Int)>0)=true:=by simp; omega
   have e44:((44:UInt8).toNat:Int)=44:=rfl
   have KN:=hb
   simp only[List.length_append,List.length_cons,List.length_nil]at KN
   rw[e3,cond_true,←e44,wb _ _ (by unfold Ib; omega)]
   have:=key (s ++ [44]) (by simp only[List.length_append,List.length_cons,List.length_nil]; omega)
   rw[List.append_assoc]at this
   exact this

theorem DI:∀(ns:List aj) (seen:List aj),vz seen ns=true→∀t∈ns,gE t=true
 | [],_,_,t,h=>by cases h
 | n::ns,seen,h,t,ht=>by
  simp only[vz,Bool.and_eq_true]at h
  rcases List.mem_cons.1 ht with rfl|ht
  ·exact h.1.2
  ·exact DI ns _ h.2 t ht

theorem write_N {R:Type}:∀(n:Nat) (v:Json) (d:Int),fI v d=true→IC v=true→v.depth<n→∀(s:aj) (k:List Int→Option R),(s++gk v).length≤100000000000→dw n v (zs s) k=k (zs (s++gk v)):=by
 intro n
 induction n with
 | zero=>intro v d _ _ h; omega
 | succ n ih =>
  intro v d hr hl hn s k hb
  obtain ⟨Hi,J0,VH,htx,Nn⟩:=ur.1 hl
  have e0:dw (n+1) v (zs s) k=wv bc ad ae az (aR (dw n)) v (zs s) k:=rfl
  rw[e0]
  have CF:∀(z:aj) (e:aj→List Int→Option R) (F:Nat) (s':aj),(v.kind=7→v.names.length=v.items.length∧∀t∈v.names,gE t=true∧t.length≤10000000000)→fJ v.items (d+1)=true→v.items.length<F→(s'++yN v 0).length≤100000000000 →
    aR (dw n) F z v.items (v.items.length:Int) 0 (zs s') v e=e z (zs (s'++yN v 0)):=fun z e F s' h7 hi hF oH =>
   MW (dw n) z v J0 h7 (fun x hx s k hb=>ih x (d+1) (He hi hx) (Fl VH hx) (by have:=Fo hx; omega) s k hb) e F 0 s' (by omega) (by omega) oH
  cases lr.1 hr with
  | name kd _ hd hk =>
   rcases hk with rfl|rfl|rfl
   ·show ae oz (zs s) (fun y3 y4=>k y4)=k (zs (s++oz))
    exact ws oz s (by decide) (by unfold Ib; rw[List.length_append]at hb; omega) _
   ·show ae kl (zs s) (fun y3 y4=>k y4)=k (zs (s++kl))
    exact ws kl s (by decide) (by unfold Ib; rw[List.length_append]at hb; omega) _
   ·show ae rL (zs s) (fun y3 y4=>k y4)=k (zs (s++rL))
    exact ws rL s (by decide) (by unfold Ib; rw[List.length_append]at hb; omega) _
  | num nm _ hd Qe =>
   have KN:(s++yK nm).length≤100000000000:=hb
   rw[List.length_append]at KN
   show bc ⟨nm.aB,nm.exp⟩ (fun y9=>ae y9 (zs s) (fun xD vu=>k vu))=k (zs (s++yK nm))
   rw[OF]
   exact ws (yK nm) s (by omega) (by unfold Ib; omega) _
  | text t _ hd ht=>exact wq t s ht htx hb k
  | arr is _ hd hi =>
   have KN:(s++(91::(mj is true ++ [93]))).length≤100000000000:=hb
   simp only[List.length_append,List.length_cons,List.length_nil]at KN
   have e91:((91:UInt8).toNat:Int)=91:=rfl
   have e93:((93:UInt8).toNat:Int)=93:=rfl
   show ad ((91:UInt8).toNat:Int) (zs s) (fun zA=>aR (dw n) _ [91,93] is (is.length:Int) 0 zA ⟨6,⟨0,0⟩, [], [],is⟩ (fun M9 PN=>cw (decide ((1:Int)<(M9.length:Int))) (ad ((M9.getD 1 0).toNat:Int) PN (fun Na=>k Na))))=k (zs (s++(91::(mj is true ++ [93]))))
   rw[wb _ _ (by unfold Ib; omega)]
   simp only at CF
   have hz:yN ⟨6,⟨0,0⟩, [], [],is⟩ 0=mj is true:=rfl
   rw[hz]at CF
   rw[CF _ _ _ _ (fun h=>by cases h) hi]
   rotate_left
   ·simp only[List.length_cons,List.length_nil]; omega
   ·simp only[List.length_append,List.length_cons,List.length_nil]; omega
   show ad ((93:UInt8).toNat:Int) (zs ((s ++ [91])++mj is true)) (fun Na=>k Na)=_
   rw[wb _ _ (by unfold Ib; simp only[List.length_append,List.length_cons,List.length_nil]; omega)]
   simp only[List.append_assoc,List.cons_append,List.nil_append]
  | obj ns is _ hd hlen hu hi =>
   have KN:(s++(123::(lT ns is true ++ [125]))).length≤100000000000:=hb
   simp only[List.length_append,List.length_cons,List.length_nil]at KN
   show ad ((123:UInt8).toNat:Int) (zs s) (fun zA=>aR (dw n) _ [123,125] is (is.length:Int) 0 zA ⟨7,⟨0,0⟩, [],ns,is⟩ (fun M9 PN=>cw (decide ((1:Int)<(M9.length:Int))) (ad ((M9.getD 1 0).toNat:Int) PN (fun Na=>k Na))))=k (zs (s++(123::(lT ns is true ++ [125]))))
   rw[wb _ _ (by unfold Ib; omega)]
   simp only at CF
   have hz:yN ⟨7,⟨0,0⟩, [],ns,is⟩ 0=lT ns is true:=rfl
   rw[hz]at CF
   rw[CF _ _ _ _ (fun _=>⟨hlen,fun t ht=>⟨DI ns [] hu t ht,Nn t ht⟩⟩) hi]
   rotate_left
   ·simp only[List.length_cons,List.length_nil]; omega
   ·simp only[List.length_append,List.length_cons,List.length_nil]; omega
   show ad ((125:UInt8).toNat:Int) (zs ((s ++ [123])++lT ns is true)) (fun Na=>k Na)=_
   rw[wb _ _ (by unfold Ib; simp only[List.length_append,List.length_cons,List.length_nil]; omega)]
   simp only[List.append_assoc,List.cons_append,List.nil_append]
theorem MX {R:Type}:∀(F:Nat) (a:aj) (b:List Json) (c d:Int) (e:List Int) (f:Json) (g:aj→List Int→Option R),bk F a b c d e f g=aR bF F a b c d e f g:=by
 intro F
 induction F with
 | zero=>intros; rfl
 | succ F ih =>
  intro a b c d e f g
  have h1:bk (F+1) a b c d e f g=iq ad bF az (fun kN kO lN th BT Dk=>bk F kN kO lN th BT Dk g) a b c d e f g:=rfl
  have h2:aR bF (F+1) a b c d e f g=iq ad bF az (fun kN kO lN th BT Dk=>aR bF F kN kO lN th BT Dk g) a b c d e f g:=rfl
  rw[h1,h2]
  simp only[ih]

theorem TV {R:Type} (v:Json) (hr:fI v 1=true) (hl:IC v=true) (hb:(gk v).length≤100000000000) (k:aj→Option R):kf v k=k (gk v):=by
 have e0:kf v k=Aa j1 fc v k:=rfl
 rw[e0]
 unfold Aa
 simp only[Json.eta]
 rw[TN v hl,hr,Bool.not_true,cond_false]
 have e1:fc v (fun y3=>k (r9 y3))=wB bc ah ad ag cU bk v (fun y3=>k (r9 y3)):=rfl
 rw[e1]
 obtain ⟨Hi,J0,VH,htx,Nn⟩:=ur.1 hl
 have CF:∀(z:aj) (e:aj→List Int→Option R) (F:Nat) (s':aj),(v.kind=7→v.names.length=v.items.length∧∀t∈v.names,gE t=true∧t.length≤10000000000)→fJ v.items (1+1)=true→v.items.length<F→(s'++yN v 0).length≤100000000000 →
   aR bF F z v.items (v.items.length:Int) 0 (zs s') v e=e z (zs (s'++yN v 0)):=fun z e F s' h7 hi hF oH =>
  MW bF z v J0 h7 (fun x hx s k hb=>write_N (x.depth+2) x (1+1) (He hi hx) (Fl VH hx) (by omega) s k hb) e F 0 s' (by omega) (by omega) oH
 cases lr.1 hr with
 | name kd _ hd hk =>
  rcases hk with rfl|rfl|rfl
  ·show ag oz (fun y3 y4=>k (r9 y4))=k oz
   rw[wsn oz (by decide),rE]
  ·show ag kl (fun y3 y4=>k (r9 y4))=k kl
   rw[wsn kl (by decide),rE]
  ·show ag rL (fun y3 y4=>k (r9 y4))=k rL
   rw[wsn rL (by decide),rE]
 | num nm _ hd Qe =>
  have KN:(yK nm).length≤100000000000:=hb
  show bc ⟨nm.aB,nm.exp⟩ (fun y9=>ag y9 (fun xD vu=>k (r9 vu)))=k (yK nm)
  rw[OF]
  show ag (yK nm) (fun xD vu=>k (r9 vu))=k (yK nm)
  rw[wsn _ KN,rE]
 | text t _ hd ht =>
  have KN:(MC t).length≤100000000000:=hb
  show cd t (fun y2 y3=>ag y2 (fun y4 y5=>k (r9 y5)))=k (MC t)
  obtain ⟨rs,XD,hc,rfl,_,hq⟩|⟨h,_⟩:=Oy (R:=R) t htx
  ·rw[hq,KV XD]
   rw[KV XD]at KN
   show ag (qt rs) (fun y4 y5=>k (r9 y5))=k (qt rs)
   rw[wsn _ KN,rE]
  ·rw[ht]at h; cases h
 | arr is _ hd hi =>
   have KN:(91::(mj is true ++ [93]):aj).length≤100000000000:=hb
   simp only[List.length_append,List.length_cons,List.length_nil]at KN
   show bk _ [91,93] is (is.length:Int) 0 (zs ([] ++ [91])) ⟨6,⟨0,0⟩, [], [],is⟩ (fun NC M9=>cw (decide ((1:Int)<(NC.length:Int))) (ad ((NC.getD 1 0).toNat:Int) M9 (fun PN=>k (r9 PN))))=k (91::(mj is true ++ [93]))
   simp only at CF
   have hz:yN ⟨6,⟨0,0⟩, [], [],is⟩ 0=mj is true:=rfl
   rw[hz]at CF
   rw[MX,CF _ _ _ _ (fun h=>by cases h) hi]
   rotate_left
   ·simp only[List.length_cons,List.length_nil]; omega
   ·simp only[List.length_append,List.length_cons,List.length_nil]; omega
   show ad ((93:UInt8).toNat:Int) (zs (([] ++ [91])++mj is true)) (fun Na=>k (r9 Na))=_
   rw[wb _ _ (by unfold Ib; simp only[List.length_append,List.length_cons,List.length_nil]; omega),rE]
   simp only[List.append_assoc,List.cons_append,List.nil_append]
 | obj ns is _ hd hlen hu hi =>
   have KN:(123::(lT ns is true ++ [125]):aj).length≤100000000000:=hb
   simp only[List.length_append,List.length_cons,List.length_nil]at KN
   show bk _ [123,125] is (is.length:Int) 0 (zs ([] ++ [123])) ⟨7,⟨0,0⟩, [],ns,is⟩ (fun NC M9=>cw (decide ((1:Int)<(NC.length:Int))) (ad ((NC.getD 1 0).toNat:Int) M9 (fun PN=>k (r9 PN))))=k (123::(lT ns is true ++ [125]))
   simp only at CF
   have hz:yN ⟨7,⟨0,0⟩, [],ns,is⟩ 0=lT ns is true:=rfl
   rw[hz]at CF
   rw[MX,CF _ _ _ _ (fun _=>⟨hlen,fun t ht=>⟨DI ns [] hu t ht,Nn t ht⟩⟩) hi]
   rotate_left
   ·simp only[List.length_cons,List.length_nil]; omega
   ·simp only[List.length_append,List.length_cons,List.length_nil]; omega
   show ad ((125:UInt8).toNat:Int) (zs (([] ++ [123])++lT ns is true)) (fun Na=>k (r9 Na))=_
   rw[wb _ _ (by unfold Ib; simp only[List.length_append,List.length_cons,List.length_nil]; omega),rE]
   simp only[List.append_assoc,List.cons_append,List.nil_append]

end Go.Proofs.YtmlkkgfenfdndaaGreatDoor

namespace Go.aF
open Go.RowKit Go.Proofs.YtmlkkgfenfdndaaGreatDoor Go.ChangeShapes Go.WideShapes

mutual
inductive Wt:Nat→V→Prop where
 | int {n:Nat} {k:IntKind} {z:Int} (h1:1≤n) (h:k.has z):Wt n (.int k z)
 | bool {n:Nat} (h1:1≤n) (b:Bool):Wt n (.bool b)
 | str {n:Nat} {s:aj} (h:s.length+1≤n):Wt n (.str s)
 | sl {n m:Nat} {T:Ty} {l:List T.den} (h:m+1≤n) (he:RY m (l.map T.cells)):Wt n (.sl T l .no)
inductive MY:Nat→List V→Prop where
 | nil:MY 0 []
 | cons {a b:Nat} {v:V} {vs:List V} (h:Wt a v) (t:MY b vs):MY (a+b) (v::vs)
inductive RY:Nat→List (List V)→Prop where
 | nil:RY 0 []
 | cons {a b:Nat} {v:List V} {vs:List (List V)} (h:MY a v) (t:RY b vs):RY (a+b) (v::vs)
end

theorem MY.append:∀ {x y:List V} {a b:Nat},MY a x→MY b y→MY (a+b) (x++y)
 | [],_,_,_, .nil,h=>by rw[Nat.zero_add]; exact h
 | v::x,y,_,b, .cons (a:=p) (b:=q) h t,h'=>by
  rw[Nat.add_assoc]
  exact .cons h (MY.append t h')
theorem Wt.one {p:eR} {x:p.den} {n:Nat} (h:Wt n (p.enc x)):MY n [p.enc x] := .cons (b:=0) h .nil

section
variable {H:Type} {enc:TypeId × Value→H} {P:Program} {tt:dA} {w:World} {spare:Nat→Bool} {held:Bool}

def pX (w:World) (N:Nat) (ls:List eR) (cs:List Value):Prop:=∃vs n,Bv ls vs∧cy w [] Kb vs cs∧MY n vs∧n≤N
theorem pX.append {N M:Nat} {a b:List eR} {x y:List Value} (h:pX w N a x) (k:pX w M b y):pX w (N+M) (a++b) (x++y):=by
 obtain ⟨u,n,h1,h2,h3,h4⟩:=h
 obtain ⟨v,m,k1,k2,k3,k4⟩:=k
 exact ⟨u++v,n+m,h1.append k1,h2.append k2,h3.append k3,by omega⟩
theorem pX.nil {N:Nat}:pX w N [] []:=⟨[],0, .nil, .nil, .nil,Nat.zero_le _⟩
theorem pX.one {N:Nat} {p:eR} {x:p.den} {d:Value} (h:dz w [] Kb (p.enc x) d) (s:Wt N (p.enc x)):pX w N [p] [d] :=
 ⟨[p.enc x],N, .one p x, .cons h .nil,Wt.one s,Nat.le_refl _⟩
theorem pX.le {N M:Nat} {ls:List eR} {cs:List Value} (h:pX w N ls cs) (hm:N≤M):pX w M ls cs:=by
 obtain ⟨u,n,h1,h2,h3,h4⟩:=h
 exact ⟨u,n,h1,h2,h3,by omega⟩
theorem UY {T:Ty}:∀(l:List T.den) (es:List (DataW H)),l.length=es.length→(∀(i:Nat) (y:T.den) (e:DataW H),l[i]? = some y→es[i]? = some e→∃n,MY n (T.cells y)∧n≤Rows.uptoBulk e)→∃m,RY m (l.map T.cells)∧m≤Rows.uptoBulkAll es
 | [],es,_,_=>⟨0, .nil,Nat.zero_le _⟩
 | y::l, [],h,_=>by cases h
 | y::l,e::es,h,hh=>by
  obtain ⟨n,h1,h2⟩:=hh 0 y e rfl rfl
  obtain ⟨m,h3,h4⟩:=UY l es (by simpa using h) fun i y e hy he=>hh (i+1) y e hy he
  exact ⟨n+m, .cons h1 h3,by simp only[Rows.uptoBulkAll]; omega⟩

theorem IP {n m:Nat} (ih:∀(t:TypeId) (cs:List Value) (x:DataW H × List MemPlace) (ls:List eR),DataW.trod enc P w 0 spare held n t cs=some x→mq P tt m t=some ls→Rows.uptoBulk x.1≤mx→pX w (Rows.uptoBulk x.1) ls cs) (cs:List Value) :
  ∀(fs:List Field) (j:Nat) (xs:List (DataW H × List MemPlace)) (ls:List eR),(fs.mapM fun f=>DataW.trod enc P w 0 spare held n f.type ((cs.drop f.offset).take (P.cellsOf f.type)))=some xs →
   ED P (mq P tt m) fs j cs.length=some ls→Rows.uptoBulkAll (xs.map (·.1))≤mx→pX w (Rows.uptoBulkAll (xs.map (·.1))) ls (cs.drop j)
 | [],j,xs,ls,_,hl,_=>by
  unfold ED at hl
  split at hl
  ·rename_i hj
   cases hl
   rw[List.drop_eq_nil_of_le (by omega)]
   exact .nil
  ·cases hl
 | f::fs,j,xs,ls,hx,hl,hb=>by
  simp only[List.mapM_cons,Option.pure_def,Option.bind_eq_bind,Option.bind_eq_some_iff]at hx
  obtain ⟨y,hy,ys,hys,e⟩:=hx
  cases e
  simp only[List.map_cons,Rows.uptoBulkAll]at hb
  unfold ED at hl
  split at hl
  ·rename_i ho
   split at hl
   ·rename_i a ha
    split at hl
    ·rename_i oJ
     split at hl
     ·rename_i b oH
      cases hl
      rw[ho]at hy
      have r1:=ih _ _ _ _ hy ha (by omega)
      have r2:=IP ih cs fs (j+a.length) ys b hys oH (by omega)
      have e:cs.drop j=(cs.drop j).take (P.cellsOf f.type)++cs.drop (j+a.length):=by
       rw[←oJ,←List.drop_drop]
       exact (List.take_append_drop a.length (cs.drop j)).symm
      rw[e]
      exact r1.append r2
     ·cases hl
    ·cases hl
   ·cases hl
  ·cases hl

theorem ON {n m:Nat} {e:TypeId} (ih:∀(t:TypeId) (cs:List Value) (x:DataW H × List MemPlace) (ls:List eR),DataW.trod enc P w 0 spare held n t cs=some x→mq P tt m t=some ls→Rows.uptoBulk x.1≤mx→pX w (Rows.uptoBulk x.1) ls cs) (cs:List Value) {a:List eR} (ha:mq P tt m e=some a) :
  ∀(k i:Nat) (ls:List eR) (es:List (DataW H)),es.length=k→(∀q y,es[q]? = some y→∃x,DataW.trod enc P w 0 spare held n e ((cs.drop ((i+q)*P.cellsOf e)).take (P.cellsOf e))=some x∧x.1=y)→Rows.uptoBulkAll es≤mx →
   xu (some a) (P.cellsOf e) k (i*P.cellsOf e) cs.length=some ls→pX w (Rows.uptoBulkAll es) ls (cs.drop (i*P.cellsOf e))
 | 0,i,ls,es,_,_,_,hl=>by
  unfold xu at hl
  split at hl
  ·rename_i hj
   cases hl
   rw[List.drop_eq_nil_of_le (by omega)]
   exact .nil
  ·cases hl
 | k+1,i,ls, [],h0,hx,hbm,hl=>by cases h0
 | k+1,i,ls,y0::es,h0,hx,hbm,hl=>by
  unfold xu at hl
  simp only at hl
  split at hl
  ·rename_i oJ
   split at hl
   ·rename_i b oH
    cases hl
    obtain ⟨x,h1,rfl⟩:=hx 0 y0 rfl
    simp only[Rows.uptoBulkAll]at hbm ⊢
    have r1:=ih _ _ _ _ h1 ha (by omega)
    rw[oJ]at oH
    have e1:i*P.cellsOf e+P.cellsOf e=(i+1)*P.cellsOf e:=by rw[Nat.add_mul]; omega
    rw[e1]at oH
    have r2:=ON ih cs ha k (i+1) b es (by simpa using h0) (fun q y hq=>by
     have:=hx (q+1) y hq
     rw[show i+(q+1)=i+1+q by omega]at this
     exact this) (by omega) oH
    have e:cs.drop (i*P.cellsOf e)=(cs.drop (i*P.cellsOf e)).take (P.cellsOf e)++cs.drop ((i+1)*P.cellsOf e):=by
     rw[←e1,←List.drop_drop]
     exact (List.take_append_drop _ _).symm
    rw[e]
    exact r1.append r2
   ·cases hl
  ·cases hl

theorem DJ (wY:EE P tt):∀(n:Nat) (t:TypeId) (cs:List Value) (x:DataW H × List MemPlace) (m:Nat) (ls:List eR),DataW.trod enc P w 0 spare held n t cs=some x→mq P tt m t=some ls →
  Rows.uptoBulk x.1≤mx→pX w (Rows.uptoBulk x.1) ls cs
 | 0,_,_,_,_,_,h,_,_=>by simp[DataW.trod]at h
 | n+1,t,cs,x,0,ls,_,hl,_=>by simp[mq]at hl
 | n+1,t,cs,x,m+1,ls,h,hl,hb=>by
  have ih:∀(t:TypeId) (cs:List Value) (x:DataW H × List MemPlace) (ls:List eR),DataW.trod enc P w 0 spare held n t cs=some x→mq P tt m t=some ls→Rows.uptoBulk x.1≤mx→pX w (Rows.uptoBulk x.1) ls cs :=
   fun t cs x ls h1 h2 h3=>DJ wY n t cs x m ls h1 h2 h3
  have ih8:∀(t:TypeId) (cs:List Value) (x:DataW H × List MemPlace) (ls:List eR),DataW.trod enc P w 0 spare held n t cs=some x→mq P tt 8 t=some ls→Rows.uptoBulk x.1≤mx→pX w (Rows.uptoBulk x.1) ls cs :=
   fun t cs x ls h1 h2 h3=>DJ wY n t cs x 8 ls h1 h2 h3
  unfold mq at hl
  unfold DataW.trod at h
  cases hu:P.underlying t with
  | none=>rw[hu]at hl; cases hl
  | some u =>
   rw[hu]at hl h
   cases u <;> simp only at hl <;> try (first|cases hl)
   case some.bool.refl =>
    rcases cs with _|⟨c,_|⟨c2,r⟩⟩
    ·simp at h
    ·cases c <;> simp at h
     exact .one (p := .bool) (.bool _) (.bool (HM _) _)
    ·simp at h
   case some.int.refl k =>
    rcases cs with _|⟨c,_|⟨c2,r⟩⟩
    ·simp at h
    ·cases c <;> simp at h
     rename_i k' z
     obtain ⟨⟨rfl,hw⟩,_⟩:=h
     have hk:IntKind.has k' z:=by
      simp only[Lit.wf,Bool.and_eq_true,decide_eq_true_eq]at hw
      exact hw
     exact .one (p := .int k') (x:=z) (.int hk) (.int (HM _) hk)
    ·simp at h
   case some.string.refl =>
    rcases cs with _|⟨c,_|⟨c2,r⟩⟩
    ·simp at h
    ·cases c <;> simp at h
     rename_i s
     obtain ⟨hs,rfl⟩:=h
     have oH:s.data.toList.length+1≤mx:=by simp only[Rows.uptoBulk]at hb; omega
     have oJ:s.size≤mx:=by
      have e:s.data.toList.length=s.size:=by rw[Array.length_toList]; rfl
      omega
     exact .one (p := .str) (x:=s.data.toList) (.str oJ) (.str (by simp only[Rows.uptoBulk]; omega))
    ·simp at h
   case some.slice e =>
    split at hl <;> try (first|cases hl)
    rename_i T hT
    split at hl <;> try (first|cases hl)
    rename_i oJ
    rcases cs with _|⟨c,_|⟨c2,r⟩⟩
    ·simp at h
    ·cases c <;> try (simp at h; done)
     rename_i A len cap
     cases A with
     | none =>
      have h0:len=0∧cap=0:=by
       split at h <;> simp_all
      obtain ⟨rfl,rfl⟩:=h0
      refine .one (p := .sl T) (x := []) ?_ (.sl (m:=0) (HM _) .nil)
      exact dz.sl (T:=T) (l := []) (t := .no) (A:=none) (cap:=0) (fun _ _=>undef) (Nat.le_refl _) (Nat.zero_le _) (fun i j hi=>by simp at hi) (fun i j x v hx=>by simp at hx) (by simp) (by simp)
     | some a =>
      simp only[Nat.zero_le,true_and]at h
      split at h <;> try (first|cases h)
      rename_i hc
      simp only[Option.bind_eq_some_iff,Option.map_eq_some_iff]at h
      obtain ⟨elems,he,rest,hr,rfl⟩:=h
      obtain ⟨g1,g2⟩:=HN he
      simp only[List.length_range]at g1
      simp only[Rows.uptoBulk]at hb
      have hlen:len≤mx:=by
       have:=YR (elems.map (·.1))
       simp only[List.length_map]at this
       omega
      have key:∀i,i<len→∃y:T.den,∃ds:List Value,w.cells? 0 (a.add (i*P.cellsOf e)) (P.cellsOf e)=some ds∧cy w [] Kb (T.cells y) ds∧∃n,MY n (T.cells y)∧∀z,elems[i]? = some z→n≤Rows.uptoBulk z.1:=by
       intro i hi
       obtain ⟨z,hz,hz2⟩:=g2 i i (by simp[hi])
       simp only[Option.bind_eq_some_iff]at hz2
       obtain ⟨ds,hd1,Xz⟩:=hz2
       have hmem:z.1∈elems.map (·.1):=List.mem_map.2 ⟨z,List.mem_of_getElem? hz,rfl⟩
       obtain ⟨vs,nw,⟨q,rfl⟩,k2,k3,k4⟩:=ih8 _ _ _ _ Xz (wY e T hT) (by have:=V7 hmem; omega)
       obtain ⟨y,hy⟩:=HL T q
       rw[←hy]at k2 k3
       exact ⟨y,ds,hd1,k2,nw,k3,fun z' hz'=>by rw[hz]at hz'; cases hz'; exact k4⟩
      obtain ⟨l,hl1,O8⟩:=Ur _ len key
      obtain ⟨mm,hm1,hm2⟩:=UY l (elems.map (·.1)) (by simp; omega) fun i y e hy he=>by
       obtain ⟨_,_,_,nn,hn1,hn2⟩:=O8 i y hy
       rw[List.getElem?_map]at he
       obtain ⟨z,hz,rfl⟩:=Option.map_eq_some_iff.1 he
       exact ⟨nn,hn1,hn2 z hz⟩
      refine .one (p := .sl T) (x:=l) ?_ (.sl (m:=mm) (by simp only[Rows.uptoBulk]; omega) hm1)
      ·have hv:(Value.slice (some a) len cap) = .slice (some a) l.length cap:=by rw[hl1]
       rw[hv]
       refine dz.sl (fun i j=>(w.cell? ((a.add (i*T.sz)).add j)).getD undef) (by omega) (Nat.le_trans hc.2 (Nat.le_of_ble_eq_true rfl)) (fun i j hi hj => ?_) (fun i j y v hy hv => ?_) (by simp) (by simp)
       ·obtain ⟨y,hy⟩:∃y,l[i]? = some y:=⟨l[i],by simp[hi]⟩
        obtain ⟨ds,d1,d2,_⟩:=O8 i y hy
        rw[oJ]at d1
        obtain ⟨c1,c2⟩:=GW d1
        obtain ⟨v,v1,v2⟩:=c2 j hj
        have ea:a=⟨a.block,a.off,none⟩:=by
         have hs0:a.spot=none:=by
          obtain ⟨y0,hy0⟩:∃y,l[0]? = some y:=⟨l[0],by simp⟩
          obtain ⟨ds0,d01,_,_⟩:=O8 0 y0 hy0
          rw[oJ]at d01
          obtain ⟨_,c02⟩:=GW d01
          obtain ⟨v0,_,v02⟩:=c02 0 (Ty.CN T)
          simp only[Nat.zero_mul,Addr.add,if_true]at v02
          exact V8 v02
         cases a; simp_all
        refine ⟨a.block,a.off,by rw[←ea],?_,free0 _ _⟩
        have e2:=addr_add (a:=a) (by rw[ea]) (i*T.sz) j
        rw[e2,v2]; rfl
       ·have hi:i<l.length:=(List.getElem?_eq_some_iff.1 hy).1
        obtain ⟨ds,d1,d2,_⟩:=O8 i y hy
        rw[oJ]at d1
        obtain ⟨c1,c2⟩:=GW d1
        have hj:j<T.sz:=by rw[←T.kD y]; exact (List.getElem?_eq_some_iff.1 hv).1
        obtain ⟨u,v1,v2⟩:=c2 j hj
        rw[v2]
        exact d2.2 j v u hv v1
    ·simp at h
   case some.struct fs =>
    simp only at h
    split at h
    ·rename_i ye
     simp only[Option.map_eq_some_iff]at h
     obtain ⟨xs,hx,rfl⟩:=h
     simp only[Rows.uptoBulk]at hb
     rw[←ye]at hl
     have:=IP ih cs fs.toList 0 xs ls hx hl (by omega)
     exact pX.le (by simpa using this) (by simp only[Rows.uptoBulk]; omega)
    ·cases h
   case some.array k e =>
    simp only at h
    split at h
    ·rename_i ye
     simp only[Option.map_eq_some_iff]at h
     obtain ⟨xs,hx,rfl⟩:=h
     simp only[Rows.uptoBulk]at hb
     rw[←ye]at hl
     obtain ⟨g1,g2⟩:=HN hx
     cases ha:mq P tt m e with
     | none =>
      rw[ha]at hl
      cases k with
      | zero =>
       unfold xu at hl
       split at hl
       ·rename_i hj
        cases hl
        have:cs = []:=List.eq_nil_of_length_eq_zero hj.symm
        subst this
        exact .nil
       ·cases hl
      | succ k=>simp[xu]at hl
     | some a =>
      rw[ha]at hl
      have:=ON ih cs ha k 0 ls (xs.map (·.1)) (by simpa using g1) (fun q y hy=>by
       rw[List.getElem?_map]at hy
       obtain ⟨z,hz,rfl⟩:=Option.map_eq_some_iff.1 hy
       have hq:q<k:=by
        have:=(List.getElem?_eq_some_iff.1 hz).1
        simp at g1
        omega
       obtain ⟨y2,hy1,hy2⟩:=g2 q q (by simp[hq])
       rw[hz]at hy1
       cases hy1
       exact ⟨z,by rw[Nat.zero_add]; exact hy2,rfl⟩) (by omega) (by simpa using hl)
      exact pX.le (by simpa using this) (by simp only[Rows.uptoBulk]; omega)
    ·cases h

theorem RZ {N:Nat} (wY:EE P tt) {t:TypeId} {v:Value} {d:DataW H} {ps:List MemPlace} {p:eR} {base:Nat} (ho:Ut P t=true) (hl:mq P tt 8 t=some [p]) (BK:Value.okWide P w .any base t v)
  (h:DataW.Trod enc P w 0 spare held t v d ps) (hb:Rows.uptoBulk d≤N) (hN:N≤mx):∃x:p.den,dz w [] Kb (p.enc x) v∧∃n,Wt n (p.enc x)∧n≤N:=by
 obtain ⟨n,h⟩:=h
 obtain ⟨vs,nw,⟨x,rfl⟩,h2,h3,h4⟩:=DJ wY n t _ _ 8 _ h hl (Nat.le_trans hb hN)
 have hc:v.cells.toList = [v]:=by
  unfold Ut at ho
  unfold Value.okWide at BK
  cases hu:P.underlying t with
  | none=>rw[hu]at ho; cases ho
  | some u =>
   rw[hu]at ho BK
   cases u <;> simp only at ho <;> try (first|cases ho) <;> (cases v <;> simp[Cell.okWide,Cell.ok,hu]at BK <;> rfl)
 rw[hc]at h2
 have h3':MY nw [p.enc x.1]:=h3
 cases h3' with
 | cons a b=>cases b; exact ⟨x.1,h2.head,_,a,Nat.le_trans h4 hb⟩

theorem aai {N:Nat} (wY:EE P tt) {t:TypeId} {v:Value} {d:DataW H} {ps:List MemPlace} {T:Ty} {base:Nat} (ho:Uu P t=true) (hl:mq P tt 8 t=some T.leaves) (BK:Value.okWide P w .any base t v)
  (h:DataW.Trod enc P w 0 spare held t v d ps) (hb:Rows.uptoBulk d≤N) (hN:N≤mx):∃x:T.den,dz w [] Kb (.agg (T.cells x)) v∧∃n,MY n (T.cells x)∧n≤N:=by
 obtain ⟨n,h⟩:=h
 obtain ⟨vs,nw,⟨x,rfl⟩,h2,h3,h4⟩:=DJ wY n t _ _ 8 _ h hl (Nat.le_trans hb hN)
 obtain ⟨y,hy⟩:=HL T x
 rw[←hy]at h2 h3
 have hc:∃cs,v = .agg cs:=by
  unfold Uu at ho
  unfold Value.okWide at BK
  cases hu:P.underlying t with
  | none=>rw[hu]at ho; cases ho
  | some u =>
   rw[hu]at ho BK
   cases u <;> simp only at ho <;> try (first|cases ho) <;> (obtain ⟨cs,hc,_⟩:=BK; exact ⟨cs,hc⟩)
 obtain ⟨cs,rfl⟩:=hc
 exact ⟨y, .agg (by have:=h2.1; simpa [Value.cells]using this) fun j v d hv hd=>h2.2 j v d hv (by simpa [Value.cells]using hd),nw,h3,Nat.le_trans h4 hb⟩
end
end Go.aF

set_option maxRecDepth 100000
namespace Go.Proofs.YtmlkkgfenfdndaaGreatDoor
open Go Go.aF Go.Lib

mutual
def Raw.tot:Raw→Nat
 | ⟨_,_,_,_,is⟩=>Raw.totL is+1
def Raw.totL:List Raw→Nat
 | []=>0
 | x::l=>Raw.tot x+Raw.totL l
end
mutual
def Raw.ok:Raw→Prop
 | ⟨k,m,e,t,is⟩=>(Cp k∧Cp m∧Cp e∧∀c∈t,Cp c)∧(t.length≤1048576∧is.length≤1048576)∧Raw.okL is
def Raw.okL:List Raw→Prop
 | []=>True
 | x::l=>Raw.ok x∧Raw.okL l
end
theorem MZ {T:Ty}:∀(l:List T.den) (m:Nat),RY m (l.map T.cells)→(∀(x:T.den) n,MY n (T.cells x)→1≤n)→l.length≤m
 | [],_,_,_=>Nat.zero_le _
 | x::l,_, .cons h t,hh=>by
  have h1:=hh x _ h
  have h2:=MZ l _ t hh
  simp only[List.length_cons]
  omega
theorem aaj {n:Nat} {v:V} (h:Wt n v):1≤n:=by
 cases h <;> omega
theorem UZ:∀(l:List (Ty.den (.int .i64))) (m:Nat),RY m (l.map (Ty.cells (.int .i64)))→∀c∈(l:List Int),Cp c
 | [],_,_,c,hc=>by cases hc
 | x::l,_, .cons h t,c,hc=>by
  rcases List.mem_cons.1 hc with rfl|hc
  ·have h':MY _ [V.int .i64 c]:=h
   cases h' with
   | cons a b=>cases a with|int _ hk=>exact H0.1 hk
  ·exact UZ l _ t c hc
mutual
theorem aak:∀(x:Raw) (n:Nat),n≤1048576→MY n (Ty.cells .raw x)→Raw.tot x≤n∧Raw.ok x
 | ⟨k,m,e,t,is⟩,n,hn,h=>by
  have hL:=U0 is
  have h':MY n [.int .i64 k, .int .i64 m, .int .i64 e, .sl (.int .i64) t .no, .sl .raw is .no]:=h
  cases h' with
  | cons a1 h'=>cases h' with
   | cons a2 h'=>cases h' with
    | cons a3 h'=>cases h' with
     | cons a4 h'=>cases h' with
      | cons a5 h' =>
       cases h'
       cases a1 with|int p1 k1 =>
       cases a2 with|int p2 k2 =>
       cases a3 with|int p3 k3 =>
       cases a4 with|sl p4 w4 =>
       cases a5 with|sl p5 w5 =>
       have hl4:=MZ (T := .int .i64) t _ w4 (fun x n h=>by
        have h':MY n [V.int .i64 x]:=h
        cases h' with|cons a b=>have:=aaj a; omega)
       have hl5:=MZ (T := .raw) is _ w5 (fun x n h=>by
        have h':MY n (.int .i64 x.kind::_):=h
        cases h' with|cons a b=>have:=aaj a; omega)
       obtain ⟨g1,g2⟩:=hL _ (by omega) w5
       refine ⟨by simp only[Raw.tot]; omega,⟨H0.1 k1,H0.1 k2,H0.1 k3,UZ t _ w4⟩,⟨Nat.le_trans hl4 (by omega),Nat.le_trans hl5 (by omega)⟩,g2⟩
theorem U0:∀(l:List Raw) (n:Nat),n≤1048576→RY n (l.map (Ty.cells .raw))→Raw.totL l≤n∧Raw.okL l
 | [],_,_,_=>⟨Nat.zero_le _,trivial⟩
 | x::l,_,hn, .cons h t=>by
  obtain ⟨a1,a2⟩:=aak x _ (by omega) h
  obtain ⟨b1,b2⟩:=U0 l _ (by omega) t
  exact ⟨by simp only[Raw.totL]; omega,a2,b2⟩
end
theorem Qa:∀ {l:List Raw} {x:Raw},Raw.okL l→x∈l→Raw.ok x
 | y::l,x,h,hx=>by
  rcases List.mem_cons.1 hx with rfl|hx
  ·exact h.1
  ·exact Qa h.2 hx
theorem TW {l:List Raw} {y:Raw} (h:y∈l):y.depth≤Raw.AJ l:=by
 induction l with
 | nil=>cases h
 | cons a l ih =>
  simp only[Raw.AJ]
  rcases List.mem_cons.1 h with rfl|h
  ·exact Nat.le_max_left _ _
  ·exact Nat.le_trans (ih h) (Nat.le_max_right _ _)
theorem R0 {x y:Raw} (h:y∈x.items):y.depth<x.depth:=by
 have:x.depth=Raw.AJ x.items+1:=by cases x; simp[Raw.depth]
 rw[this]
 exact Nat.lt_succ_of_le (TW h)

theorem R1:∀(ns seen:List aj) (n:aj),vz seen (ns ++ [n])=(vz seen ns&&((!(seen.contains n||ns.contains n))&&gE n))
 | [],seen,n=>by simp[vz]
 | m::ns,seen,n=>by
  simp only[List.cons_append,vz,R1 ns (m::seen) n,List.contains_cons]
  cases seen.contains m <;> cases gE m <;> cases vz (m::seen) ns <;> cases n==m <;> cases seen.contains n <;> rfl

theorem U1 (t:aj):(MC t).length≤6*t.length+2:=by
 unfold MC
 have:∀l:aj,(l.flatMap qb).length≤6*l.length:=by
  intro l
  induction l with
  | nil=>simp
  | cons b l ih =>
   have:=qb_len b
   simp only[List.flatMap_cons,List.length_append,List.length_cons]
   omega
 have:=this t
 simp only[List.length_cons,List.length_append,List.length_nil]
 omega

theorem aal {R:Type} (d q i:Int) (y:aj) (raw:Raw) (a1 a2 a3:Int) (a4:aj) (b1 b2 b3:Int) (b4:aj) (ns:List aj) (hl:ns.length≤1000000) (is:List Json) (ri:Raw) (e0):∀(F j:Nat) (b:Bool),j≤ns.length→ns.length - j<F →
  bz (R:=R) F d q i y b (j:Int) raw a1 a2 a3 a4 b1 b2 b3 b4 ns is ri e0=e0 d q i y (b||(ns.drop j).contains y) raw a1 a2 a3 a4 b1 b2 b3 b4 ns is ri:=by
 intro F
 induction F with
 | zero=>intro j b _ h; omega
 | succ F ih =>
  intro j b hj hF
  show sS (fun kN kO lN th BT Dk Ks Kt Ku Kv zh Fp MI MJ Z5 Z6 Z7 Z8=>bz F kN kO lN th BT Dk Ks Kt Ku Kv zh Fp MI MJ Z5 Z6 Z7 Z8 e0) d q i y b (j:Int) raw a1 a2 a3 a4 b1 b2 b3 b4 ns is ri e0=_
  unfold sS
  simp only[Raw.eta]
  by_cases h:j<ns.length
  ·have h1:decide ((j:Int)<(ns.length:Int))=true:=by simp; omega
   have h2:(decide ((0:Int)≤(j:Int))&&true)=true:=by simp
   have hw:IntKind.i64.wrap ((j:Int)+1)=((j+1:Nat):Int):=by rw[dx (by omega) (by omega)]; omega
   have hg:ns.getD (j:Int).toNat (Ty.bY .str)=ns[j]:=getD_at h _
   rw[h1,cond_true,aL h2,hg,hw,List.drop_eq_getElem_cons h,List.contains_cons]
   cases b with
   | true =>
    rw[cond_true,ih (j+1) true (by omega) (by omega)]
    rfl
   | false =>
    rw[cond_false,ih (j+1) _ (by omega) (by omega),Bool.false_or]
    have:(ns[j]==y)=(y==ns[j]):=by rw[Bool.eq_iff_iff,beq_iff_eq,beq_iff_eq]; exact eq_comm
    rw[this]
  ·have h1:decide ((j:Int)<(ns.length:Int))=false:=by simp; omega
   rw[h1,cond_false,List.drop_eq_nil_of_le (by omega),List.contains_nil,Bool.or_false]

structure aam (R:Type) (v:Json) (d:Int) (n:Nat):Prop where
 right:fI v d=true
 len:IC v=true
 size:(gk v).length+5000≤10000*n

theorem M0:∀(l:List Json) (x:Json) (b:Bool),(mj (l ++ [x]) b).length≤(mj l b).length+1+(gk x).length
 | [],x,b=>by cases b <;> simp[mj] <;> omega
 | y::l,x,b=>by
  have:=M0 l x false
  simp only[List.cons_append,mj,List.length_append]
  omega
theorem M1:∀(ns:List aj) (l:List Json) (n:aj) (x:Json) (b:Bool),ns.length=l.length→(lT (ns ++ [n]) (l ++ [x]) b).length≤(lT ns l b).length+2+(MC n).length+(gk x).length
 | [], [],n,x,b,_=>by cases b <;> simp[lT] <;> omega
 | m::ns,y::l,n,x,b,h=>by
  have:=M1 ns l n x false (by simpa using h)
  simp only[List.cons_append,lT,List.headD_cons,List.tail_cons,List.length_append,List.length_cons]
  omega
 | [],_::_,_,_,_,h=>by cases h
 | _::_, [],_,_,_,h=>by cases h
theorem Hg:∀(l:List Json) (x:Json) (d:Int),fJ (l ++ [x]) d=(fJ l d&&fI x d)
 | [],x,d=>by simp[fJ]
 | y::l,x,d=>by simp only[List.cons_append,fJ,Hg l x d,Bool.and_assoc]
theorem M3:∀(l:List Json) (x:Json),ID (l ++ [x])=(ID l&&IC x)
 | [],x=>by simp[ID]
 | y::l,x=>by simp only[List.cons_append,ID,M3 l x,Bool.and_assoc]
theorem totL_take (l:List Raw) (i:Nat) (h:i<l.length):Raw.totL (l.take (i+1))=Raw.totL (l.take i)+Raw.tot l[i]:=by
 induction l generalizing i with
 | nil=>cases h
 | cons y l ih =>
  cases i with
  | zero=>simp[Raw.totL]
  | succ i =>
   have:=ih i (by simpa using h)
   simp only[List.take_succ_cons,Raw.totL,List.getElem_cons_succ]
   omega
theorem totL_take_le (l:List Raw) (i:Nat):Raw.totL (l.take i)≤Raw.totL l:=by
 induction l generalizing i with
 | nil=>simp
 | cons y l ih =>
  cases i with
  | zero=>simp[Raw.totL]
  | succ i =>
   have:=ih i
   simp only[List.take_succ_cons,Raw.totL]
   omega

structure W1 (q:Int) (d:Int) (ns:List aj) (is:List Json) (n:Nat):Prop where
 right:fJ is (d+1)=true
 len:ID is=true
 count:is.length≤12
 names:(q=7∧ns.length=is.length∧vz [] ns=true∧(∀t∈ns,t.length≤1000)∧(lT ns is true).length≤10000*n)∨(q=6∧ns = []∧(mj is true).length≤10000*n)

theorem W1.fit {R:Type} {q d:Int} (hd:d≤16) {ns:List aj} {is:List Json} {n m:Nat} (h:W1 q d ns is n) (hn:n≤m):aam R ⟨q,⟨0,0⟩, [],ns,is⟩ d (m+1):=by
 obtain ⟨h1,h2,h3,h4⟩:=h
 rcases h4 with ⟨rfl,g1,g2,g3,g4⟩|⟨rfl,rfl,g4⟩
 ·refine ⟨lr.2 (.obj ns is d hd g1 g2 h1),ur.2 ⟨by simp only; omega,by simp only; omega,h2,by simp,fun t ht=>by have:=g3 t ht; omega⟩,?_⟩
  show (123::(lT ns is true ++ [125]):aj).length+5000≤_
  simp only[List.length_cons,List.length_append,List.length_nil]
  omega
 ·refine ⟨lr.2 (.arr is d hd h1),ur.2 ⟨by simp,by simp only; omega,h2,by simp,by simp⟩,?_⟩
  show (91::(mj is true ++ [93]):aj).length+5000≤_
  simp only[List.length_cons,List.length_append,List.length_nil]
  omega
end Go.Proofs.YtmlkkgfenfdndaaGreatDoor

/-
 Functions of the program as pure Lean functions, and the ties; printed by wip/tools/emit.py.
-/
set_option maxRecDepth 100000
namespace Go.Proofs.YtmlkkgfenfdndaaGreatDoor
open Go Go.aF

end Go.Proofs.YtmlkkgfenfdndaaGreatDoor

/-
 Functions of the program as pure Lean functions, and the ties; printed by wip/tools/emit.py.
-/
set_option maxRecDepth 100000
namespace Go.Proofs.YtmlkkgfenfdndaaGreatDoor
open Go Go.aF

end Go.Proofs.YtmlkkgfenfdndaaGreatDoor

set_option maxRecDepth 100000
namespace Go.Proofs.YtmlkkgfenfdndaaGreatDoor
open Go Go.aF Go.Lib

theorem pick04 {R:Type} (c n:Int) (hc:Cp c) (h0:0<n) (hn:n≤9223372036854775807):∃r:Int,0≤r∧r<n∧∀k:Int→Option R,eS c n k=k r:=H2 c n hc h0 hn


theorem TX {R:Type} (iB:dh R) (d:Int) (hd:1≤d∧d≤16) (q:Int) (hq:q=6∨q=7) (raw:Raw) (hl:raw.items.length≤1048576) (qy:Raw.okL raw.items) (hf:d<16→∀x∈raw.items,∃v,aam R v (d+1) (Raw.tot x)∧∀k:Json→Option R,iB x (d+1) k=k v) :
  ∀(F i:Nat) (ns:List aj) (is:List Json),i≤raw.items.length→raw.items.length - i<F→is.length≤i→W1 q d ns is (Raw.totL (raw.items.take i)) →
  ∃KY KZ,W1 q d KY KZ (Raw.totL raw.items)∧∀e0,bl iB F d q (i:Int) raw 0 0 0 [] q 0 0 [] ns is e0=e0 0 0 0 [] q 0 0 [] KY KZ:=by
 intro F
 induction F with
 | zero=>intro i ns is _ h; omega
 | succ F ih =>
  intro i ns is hi hF hc hh
  have e1:∀e0,bl iB (F+1) d q (i:Int) raw 0 0 0 [] q 0 0 [] ns is e0=lx bU iB bz (fun kN kO lN th BT Dk Ks Kt Ku Kv zh Fp MI MJ=>bl iB F kN kO lN th BT Dk Ks Kt Ku Kv zh Fp MI MJ e0) d q (i:Int) raw 0 0 0 [] q 0 0 [] ns is e0:=fun e0=>rfl
  have stop:(∀e0,bl iB (F+1) d q (i:Int) raw 0 0 0 [] q 0 0 [] ns is e0=e0 0 0 0 [] q 0 0 [] ns is)→∃KY KZ,W1 q d KY KZ (Raw.totL raw.items)∧∀e0,bl iB (F+1) d q (i:Int) raw 0 0 0 [] q 0 0 [] ns is e0=e0 0 0 0 [] q 0 0 [] KY KZ:=fun h=>by
   refine ⟨ns,is,⟨hh.right,hh.len,hh.count,?_⟩,h⟩
   have hle:=totL_take_le raw.items i
   rcases hh.names with ⟨g1,g2,g3,g4,g5⟩|⟨g1,g2,g3⟩
   ·exact .inl ⟨g1,g2,g3,g4,by omega⟩
   ·exact .inr ⟨g1,g2,by omega⟩
  by_cases h:i<raw.items.length
  rotate_left
  ·refine stop fun e0 => ?_
   rw[e1]
   unfold lx
   have h1:decide ((i:Int)<(raw.items.length:Int))=false:=by simp; omega
   rw[h1]
   rfl
  have h1:decide ((i:Int)<(raw.items.length:Int))=true:=by simp; omega
  by_cases h12:i<12
  rotate_left
  ·refine stop fun e0 => ?_
   rw[e1]
   unfold lx
   have h2:decide ((i:Int)<12)=false:=by simp; omega
   rw[h1,h2]
   rfl
  have h2:decide ((i:Int)<12)=true:=by simp; omega
  by_cases RR:d<16
  rotate_left
  ·refine stop fun e0 => ?_
   rw[e1]
   unfold lx
   have h3:decide (d<16)=false:=by simp; omega
   rw[h1,h2,h3]
   rfl
  have h3:decide (d<16)=true:=by simpa using RR
  have hw:IntKind.i64.wrap ((i:Int)+1)=((i+1:Nat):Int):=by rw[dx (by omega) (by omega)]; omega
  have hwd:IntKind.i64.wrap (d+1)=d+1:=dx (by omega) (by omega)
  have hg:raw.items.getD (i:Int).toNat (Ty.bY .raw)=raw.items[i]:=getD_at h _
  have hxok:=Qa qy (List.getElem_mem h)
  obtain ⟨v,hv,kY⟩:=hf RR raw.items[i] (List.getElem_mem h)
  generalize hx:raw.items[i]=x at *
  have Pe:∀c∈x.text,Cp c:=by
   obtain ⟨k1,m1,Ug,t1,is1⟩:=x
   exact hxok.1.2.2.2
  have hxl:x.text.length≤1048576:=by
   obtain ⟨k1,m1,Ug,t1,is1⟩:=x
   exact hxok.2.1.1
  have Xt:min (x.text.length:Int) 8=((min x.text.length 8:Nat):Int):=by omega
  obtain ⟨rs,r1,r2,r3,r4⟩:=Rm (R:=R) (x.text.take (min x.text.length 8)) (fun c hc=>Pe c (List.mem_of_mem_take hc))
  have BK:gE (cz rs)=true:=Co.2 ⟨rs,r1,rfl⟩
  have aan:Raw.totL (raw.items.take (i+1))=Raw.totL (raw.items.take i)+Raw.tot x:=by rw[totL_take _ _ h,hx]
  have hqt:=U1 (cz rs)
  have e2:∀e0,bl iB (F+1) d q (i:Int) raw 0 0 0 [] q 0 0 [] ns is e0 =
    (bif (q==7)then (bz (Int.natAbs d+Int.natAbs q+Int.natAbs (i:Int)+List.length (cz rs)+Int.natAbs 0+Raw.fu raw+Int.natAbs 0+Int.natAbs 0+Int.natAbs 0+List.length ([]:aj)+Int.natAbs q+Int.natAbs 0+Int.natAbs 0+List.length ([]:aj)+List.length ns+List.length is+Raw.fu x+64) d q (i:Int) (cz rs) false 0 raw 0 0 0 [] q 0 0 [] ns is x (fun Ov Rs Rt Xh Wq NI Xk Zo Zp Zq Xl Zr Zs y55 Wr Ws Wu=>bif Wq then (bl iB F Ov Rs (IntKind.i64.wrap (Rt+1)) NI Xk Zo Zp Zq Xl Zr Zs y55 Wr Ws e0)else (cw (decide ((Wr.length+1)*16≤140737488355328)) (iB Wu (IntKind.i64.wrap (Ov+1)) (fun Tv=>cw (decide ((Ws.length+1)*88≤140737488355328)) (bl iB F Ov Rs (IntKind.i64.wrap (Rt+1)) NI Xk Zo Zp Zq Xl Zr Zs y55 (Wr++([Xh]:List aj)) (Ws++([Tv]:List Json)) e0))))))
    else (iB x (IntKind.i64.wrap (d+1)) (fun UB=>cw (decide ((is.length+1)*88≤140737488355328)) (bl iB F d q (IntKind.i64.wrap ((i:Int)+1)) raw 0 0 0 [] q 0 0 [] ns (is++([UB]:List Json)) e0)))):=fun e0=>by
   rw[e1]
   unfold lx
   simp only[Raw.eta,Json.eta]
   rw[h1,cond_true,h2,cond_true,h3,cond_true,aL (by simp),hg,Xt,aL (by rw[bf (by omega),bf (by omega)]; rfl),aL (bf (by omega)),Int.toNat_natCast,List.drop_zero,Nat.sub_zero,r4]
  have c1:decide ((ns.length+1)*16≤140737488355328)=true:=by
   rw[decide_eq_true_eq]
   have:=hh.count
   rcases hh.names with ⟨_,g2,_⟩|⟨_,g2,_⟩
   ·omega
   ·rw[g2]; simp
  have c2:decide ((is.length+1)*88≤140737488355328)=true:=by
   rw[decide_eq_true_eq]
   have:=hh.count
   omega
  have oJ:=hv.size
  rcases hq with rfl|rfl
  ·-- an array
   rcases hh.names with ⟨g1,_⟩|⟨_,g2,g3⟩
   ·cases g1
   have hpe:=M0 is v true
   obtain ⟨KY,KZ,hh',R2⟩:=ih (i+1) ns (is ++ [v]) (by omega) (by omega) (by simp; omega) ⟨by rw[Hg,hh.right,hv.right]; rfl,by rw[M3,hh.len,hv.len]; rfl,by simp; omega, .inr ⟨rfl,g2,by rw[aan]; omega⟩⟩
   refine ⟨KY,KZ,hh',fun e0 => ?_⟩
   rw[e2]
   show iB x (IntKind.i64.wrap (d+1)) _=_
   rw[hwd,kY,aL c2,hw,R2]
  ·-- an object
   rcases hh.names with ⟨_,g2,g3,g4,g5⟩|⟨g1,_⟩
   rotate_left
   ·cases g1
   have hsl:=fun e=>aal (R:=R) d 7 (i:Int) (cz rs) raw 0 0 0 [] 7 0 0 [] ns (by have:=hh.count; omega) is x e (Int.natAbs d+Int.natAbs 7+Int.natAbs (i:Int)+List.length (cz rs)+Int.natAbs 0+Raw.fu raw+Int.natAbs 0+Int.natAbs 0+Int.natAbs 0+List.length ([]:aj)+Int.natAbs 7+Int.natAbs 0+Int.natAbs 0+List.length ([]:aj)+List.length ns+List.length is+Raw.fu x+64) 0 false (by omega) (by omega)
   cases hcn:ns.contains (cz rs)with
   | true =>
    obtain ⟨KY,KZ,hh',R2⟩:=ih (i+1) ns is (by omega) (by omega) (by omega) ⟨hh.right,hh.len,hh.count, .inl ⟨rfl,g2,g3,g4,by rw[aan]; omega⟩⟩
    refine ⟨KY,KZ,hh',fun e0 => ?_⟩
    rw[e2]
    refine (hsl _).trans ?_
    rw[List.drop_zero,hcn]
    show bl iB F d 7 (IntKind.i64.wrap ((i:Int)+1)) raw 0 0 0 [] 7 0 0 [] ns is e0=_
    rw[hw,R2]
   | false =>
    have hpe:=M1 ns is (cz rs) v true g2
    obtain ⟨KY,KZ,hh',R2⟩:=ih (i+1) (ns ++ [cz rs]) (is ++ [v]) (by omega) (by omega) (by simp; omega) ⟨by rw[Hg,hh.right,hv.right]; rfl,by rw[M3,hh.len,hv.len]; rfl,by simp; omega,
     .inl ⟨rfl,by simp[g2],by rw[R1,g3,hcn,BK]; rfl,fun t ht=>by
      rcases List.mem_append.1 ht with ht|ht
      ·exact g4 t ht
      ·simp only[List.mem_singleton]at ht
       rw[ht]; omega,by rw[aan]; omega⟩⟩
    refine ⟨KY,KZ,hh',fun e0 => ?_⟩
    rw[e2]
    refine (hsl _).trans ?_
    rw[List.drop_zero,hcn]
    show cw (decide ((ns.length+1)*16≤140737488355328)) (iB x (IntKind.i64.wrap (d+1)) _)=_
    rw[aL c1,hwd,kY,aL c2,hw,R2]

theorem aao {d:iC} (h:Fm d):(yK d).length≤60:=by
 have e:yK d=Nc d:=by unfold yK; rw[FK.2 h]; rfl
 rw[e]
 exact (OD h).2.2

theorem fit_N {R:Type}:∀(n:Nat) (x:Raw) (d:Int),Raw.ok x→x.depth<n→1≤d→d≤16→∃v,aam R v d (Raw.tot x)∧∀k:Json→Option R,iU n x d k=k v:=by
 intro n
 induction n with
 | zero=>intro x d _ h; omega
 | succ n ih =>
  intro x d hx hn hd1 Xz
  have e0:∀k:Json→Option R,iU (n+1) x d k=mV bU di eS (bl (iU n)) x d k:=fun k=>rfl
  have hdep:∀z∈x.items,z.depth<n:=fun z hz=>by have:=R0 hz; omega
  obtain ⟨kd,mt,ex,tx,is⟩:=x
  obtain ⟨⟨i1,i2,i3,i4⟩,⟨l1,l2⟩,i5⟩:=hx
  simp only at hdep
  have aan:Raw.tot ⟨kd,mt,ex,tx,is⟩=Raw.totL is+1:=rfl
  obtain ⟨y,y0,y1,hy⟩:=pick04 (R:=R) kd 7 i1 (by omega) (by omega)
  have hw:IntKind.i64.wrap (1+y)=1+y:=dx (by omega) (by omega)
  have hq:y=0∨y=1∨y=2∨y=3∨y=4∨y=5∨y=6:=by omega
  have hlp:∀q:Int,q=6∨q=7→∃KY KZ,W1 q d KY KZ (Raw.totL is)∧∀e0,bl (R:=R) (iU n) (Int.natAbs d+Int.natAbs q+Int.natAbs 0+Raw.fu ⟨kd,mt,ex,tx,is⟩+Int.natAbs 0+Int.natAbs 0+Int.natAbs 0+List.length ([]:aj)+Int.natAbs q+Int.natAbs 0+Int.natAbs 0+List.length ([]:aj)+List.length ([]:List aj)+List.length ([]:List Json)+64) d q ((0:Nat):Int) ⟨kd,mt,ex,tx,is⟩ 0 0 0 [] q 0 0 [] [] [] e0=e0 0 0 0 [] q 0 0 [] KY KZ:=fun q hq=>by
   refine TX (iU n) d ⟨hd1,Xz⟩ q hq ⟨kd,mt,ex,tx,is⟩ l2 i5 (fun RR z hz=>ih z (d+1) (Qa i5 hz) (hdep z hz) (by omega) (by omega)) _ 0 [] [] (by omega) (by simp only[Raw.fu]; omega) (by simp) ⟨rfl,rfl,by simp,?_⟩
   rcases hq with rfl|rfl
   ·exact .inr ⟨rfl,rfl,by simp[mj]⟩
   ·exact .inl ⟨rfl,rfl,rfl,by simp,by simp[lT]⟩
  have Qe:∀q:Int,q=1∨q=2∨q=3→aam R ⟨q,⟨0,0⟩, [], [], []⟩ d (Raw.totL is+1):=fun q hq=>by
   refine ⟨lr.2 (.name q d Xz hq),rfl,?_⟩
   rcases hq with rfl|rfl|rfl
   ·show oz.length+5000≤_
    have:oz.length=4:=rfl
    omega
   ·show kl.length+5000≤_
    have:kl.length=5:=rfl
    omega
   ·show rL.length+5000≤_
    have:rL.length=4:=rfl
    omega
  rw[aan]
  rcases hq with rfl|rfl|rfl|rfl|rfl|rfl|rfl
  ·refine ⟨_,Qe 1 (by omega),fun k => ?_⟩
   rw[e0]
   unfold mV
   rw[hy]
   rfl
  ·refine ⟨_,Qe 2 (by omega),fun k => ?_⟩
   rw[e0]
   unfold mV
   rw[hy]
   rfl
  ·refine ⟨_,Qe 3 (by omega),fun k => ?_⟩
   rw[e0]
   unfold mV
   rw[hy]
   rfl
  ·obtain ⟨dc,hdc,kY⟩:=fit_ok (R:=R) mt ex i2 i3
   refine ⟨⟨4,dc, [], [], []⟩,⟨lr.2 (.num dc d Xz hdc),rfl,?_⟩,fun k => ?_⟩
   ·show (yK dc).length+5000≤_
    have:=aao hdc
    omega
   ·rw[e0]
    unfold mV
    rw[hy]
    show di mt ex _=_
    rw[kY]
    rfl
  ·have Xt:min (tx.length:Int) 20=((min tx.length 20:Nat):Int):=by omega
   obtain ⟨rs,r1,r2,r3,r4⟩:=Rm (R:=R) (tx.take (min tx.length 20)) (fun c hc=>i4 c (List.mem_of_mem_take hc))
   have hqt:=U1 (cz rs)
   refine ⟨⟨5,⟨0,0⟩,cz rs, [], []⟩,⟨lr.2 (.text _ d Xz (Co.2 ⟨rs,r1,rfl⟩)),ur.2 ⟨by simp,by simp,rfl,by simp only; omega,by simp⟩,?_⟩,fun k => ?_⟩
   ·show (MC (cz rs)).length+5000≤_
    omega
   ·rw[e0]
    unfold mV
    rw[hy]
    show cw (decide ((0:Int)≤(min (tx.length:Int) 20))&&decide ((min (tx.length:Int) 20)≤(tx.length:Int))) (cw (decide ((0:Int)≤(min (tx.length:Int) 20))) (bU ((tx.drop 0).take ((min (tx.length:Int) 20).toNat - 0)) _))=_
    rw[Xt,aL (by rw[bf (by omega),bf (by omega)]; rfl),aL (bf (by omega)),Int.toNat_natCast,List.drop_zero,Nat.sub_zero,r4]
    rfl
  ·obtain ⟨KY,KZ,hh,kY⟩:=hlp 6 (.inl rfl)
   refine ⟨_,hh.fit Xz (Nat.le_refl _),fun k => ?_⟩
   rw[e0]
   unfold mV
   rw[hy]
   exact kY _
  ·obtain ⟨KY,KZ,hh,kY⟩:=hlp 7 (.inr rfl)
   refine ⟨_,hh.fit Xz (Nat.le_refl _),fun k => ?_⟩
   rw[e0]
   unfold mV
   rw[hy]
   exact kY _

theorem jfit {R:Type} (x:Raw) (hx:Raw.ok x) (d:Int) (h1:1≤d) (h2:d≤16):∃v,aam R v d (Raw.tot x)∧∀k:Json→Option R,mc x d k=k v:=fit_N (x.depth+2) x d hx (by omega) h1 h2

theorem aap {R:Type} (a b:List aj) (hl:a.length=b.length) (ha:a.length≤1099511627776) (k:Bool→Option R):∀(F i:Nat),i≤a.length→a.length - i<F →
  aQ F a b (a.length:Int) (i:Int) (k true) k=k (decide (a.drop i=b.drop i)):=by
 intro F
 induction F with
 | zero=>intro i _ h; omega
 | succ F ih =>
  intro i hi hF
  show gX (fun x0 x1 x2 x3=>aQ F x0 x1 x2 x3 _ _) a b (a.length:Int) (i:Int) _ _=_
  unfold gX
  by_cases h:i<a.length
  ·have hb:i<b.length:=by omega
   have h1:decide ((i:Int)<(a.length:Int))=true:=by simp; omega
   have h2:(decide ((0:Int)≤(i:Int))&&true)=true:=by simp
   have h3:(decide ((0:Int)≤(i:Int))&&decide ((i:Int)<(b.length:Int)))=true:=by simp; omega
   have hw:IntKind.i64.wrap ((i:Int)+1)=((i+1:Nat):Int):=by rw[dx (by omega) (by omega)]; omega
   have hg:a.getD (i:Int).toNat (Ty.bY .str)=a[i]:=getD_at h _
   have hg':b.getD (i:Int).toNat (Ty.bY .str)=b[i]:=getD_at hb _
   rw[h1,cond_true,aL h2,aL h3,hg,hg',hw,List.drop_eq_getElem_cons h,List.drop_eq_getElem_cons hb]
   by_cases hq:a[i]=b[i]
   ·have e:(a[i]==b[i])=true:=by simpa using hq
    rw[e,Bool.not_true,cond_false]
    simp only[List.cons.injEq,hq,true_and]
    exact ih (i+1) (by omega) (by omega)
   ·have e:(a[i]==b[i])=false:=by simpa using hq
    rw[e,Bool.not_false,cond_true]
    have jc:¬(a[i]::a.drop (i+1)=b[i]::b.drop (i+1)):=fun h=>hq (List.cons.inj h).1
    rw[decide_eq_false jc]
  ·have h1:decide ((i:Int)<(a.length:Int))=false:=by simp; omega
   rw[h1,cond_false,List.drop_eq_nil_of_le (by omega),List.drop_eq_nil_of_le (by omega)]
   simp
theorem W2 {R:Type} (a b:List aj) (ha:a.length≤1099511627776) (k:Bool→Option R):cg a b k=k (decide (a=b)):=by
 have e:cg a b k=bif ((a.length:Int) != (b.length:Int))then (k false)else (aQ (List.length a+List.length b+Int.natAbs (a.length:Int)+Int.natAbs 0+64) a b (a.length:Int) 0 (k true) (fun y7=>k y7)):=rfl
 rw[e]
 by_cases hl:a.length=b.length
 ·have h1:((a.length:Int) != (b.length:Int))=false:=by rw[hl]; simp
  have:=aap a b hl ha k (List.length a+List.length b+Int.natAbs (a.length:Int)+Int.natAbs 0+64) 0 (by omega) (by omega)
  rw[h1,cond_false]
  rw[List.drop_zero,List.drop_zero]at this
  exact this
 ·have h1:((a.length:Int) != (b.length:Int))=true:=by simp; omega
  have:a≠b:=fun e=>hl (by rw[e])
  rw[h1,cond_true]
  simp[this]

theorem aaq {R:Type} (f:cR R) (a b:List Json) (hl:a.length=b.length) (ha:a.length≤1099511627776) (hf:∀x∈a,∀y∈b,∃r:Bool,(r=true↔x=y)∧∀k,f x y k=k r):∀(F i:Nat),i≤a.length→a.length - i<F →
  ∃r:Bool,(r=true↔a.drop i=b.drop i)∧∀k:Bool→Option R,av f F b a (a.length:Int) (i:Int) (k true) k=k r:=by
 intro F
 induction F with
 | zero=>intro i _ h; omega
 | succ F ih =>
  intro i hi hF
  by_cases h:i<a.length
  ·have hb:i<b.length:=by omega
   have h1:decide ((i:Int)<(a.length:Int))=true:=by simp; omega
   have h2:(decide ((0:Int)≤(i:Int))&&true)=true:=by simp
   have h3:(decide ((0:Int)≤(i:Int))&&decide ((i:Int)<(b.length:Int)))=true:=by simp; omega
   have hw:IntKind.i64.wrap ((i:Int)+1)=((i+1:Nat):Int):=by rw[dx (by omega) (by omega)]; omega
   have hg:a.getD (i:Int).toNat (Ty.bY .json)=a[i]:=getD_at h _
   have hg':b.getD (i:Int).toNat (Ty.bY .json)=b[i]:=getD_at hb _
   obtain ⟨r,hr,hk⟩:=hf a[i] (List.getElem_mem h) b[i] (List.getElem_mem hb)
   obtain ⟨r2,hr2,Fw⟩:=ih (i+1) (by omega) (by omega)
   refine ⟨r&&r2,?_,fun k => ?_⟩
   ·rw[List.drop_eq_getElem_cons h,List.drop_eq_getElem_cons hb]
    simp only[Bool.and_eq_true,hr,hr2,List.cons.injEq]
   ·show cO f (fun x0 x1 x2 x3=>av f F x0 x1 x2 x3 (k true) k) b a (a.length:Int) (i:Int) (k true) k=_
    unfold cO
    simp only[Json.eta]
    rw[h1,cond_true,aL h2,aL h3,hg,hg',hk,hw,Fw]
    cases r <;> rfl
  ·refine ⟨true,?_,fun k => ?_⟩
   ·rw[List.drop_eq_nil_of_le (by omega),List.drop_eq_nil_of_le (by omega)]
    simp
   ·show cO f (fun x0 x1 x2 x3=>av f F x0 x1 x2 x3 (k true) k) b a (a.length:Int) (i:Int) (k true) k=_
    unfold cO
    have h1:decide ((i:Int)<(a.length:Int))=false:=by simp; omega
    rw[h1]
    rfl
theorem W3 {R:Type} (f:cR R) (a b:List Json) (ha:a.length≤1099511627776) (hf:∀x∈a,∀y∈b,∃r:Bool,(r=true↔x=y)∧∀k,f x y k=k r) :
  ∃r:Bool,(r=true↔a=b)∧∀k:Bool→Option R,bg f a b k=k r:=by
 have e:∀k,bg f a b k=bif ((a.length:Int) != (b.length:Int))then (k false)else (av f (List.length b+List.length a+Int.natAbs (a.length:Int)+Int.natAbs 0+64) b a (a.length:Int) 0 (k true) (fun y8=>k y8)):=fun k=>rfl
 by_cases hl:a.length=b.length
 ·have h1:((a.length:Int) != (b.length:Int))=false:=by rw[hl]; simp
  obtain ⟨r,hr,hk⟩:=aaq f a b hl ha hf (List.length b+List.length a+Int.natAbs (a.length:Int)+Int.natAbs 0+64) 0 (by omega) (by omega)
  rw[List.drop_zero,List.drop_zero]at hr
  refine ⟨r,hr,fun k => ?_⟩
  rw[e,h1,cond_false]
  exact hk k
 ·have h1:((a.length:Int) != (b.length:Int))=true:=by simp; omega
  refine ⟨false,?_,fun k => ?_⟩
  ·constructor
   ·intro h; cases h
   ·rintro rfl; exact (hl rfl).elim
  ·rw[e,h1,cond_true]

theorem jsame_N {R:Type}:∀(n:Nat) (v w:Json),IC v=true→v.depth<n→∃r:Bool,(r=true↔v=w)∧∀k:Bool→Option R,jN n v w k=k r:=by
 intro n
 induction n with
 | zero=>intro v w _ h; omega
 | succ n ih =>
  intro v w hl hd
  obtain ⟨Hi,J0,VH,_⟩:=ur.1 hl
  obtain ⟨r,hr,hk⟩:=W3 (R:=R) (jN n) v.items w.items J0 fun x hx y _=>ih x y (Fl VH hx) (by have:=Fo hx; omega)
  have e0:∀k:Bool→Option R,jN (n+1) v w k=BE (bg (jN n)) cg v w k:=fun k=>rfl
  obtain ⟨k1,⟨m1,x1⟩,t1,ns1,is1⟩:=v
  obtain ⟨k2,⟨m2,x2⟩,t2,ns2,is2⟩:=w
  refine ⟨(k1==k2)&&((m1==m2&&(x1==x2&&true))&&((t1==t2)&&(decide (ns1=ns2)&&r))),?_,fun k => ?_⟩
  ·simp only[Bool.and_eq_true,beq_iff_eq,decide_eq_true_eq,hr,Json.mk.injEq,iC.mk.injEq]
   constructor
   ·rintro ⟨h1,⟨h2,h3,_⟩,h4,h5,h6⟩; exact ⟨h1,⟨h2,h3⟩,h4,h5,h6⟩
   ·rintro ⟨h1,⟨h2,h3⟩,h4,h5,h6⟩; exact ⟨h1,⟨h2,h3,trivial⟩,h4,h5,h6⟩
  ·rw[e0]
   unfold BE
   simp only
   rw[W2 ns1 ns2 Hi]
   simp only[hk]
   cases k1==k2 <;> cases (m1==m2&&(x1==x2&&true)) <;> cases t1==t2 <;> cases decide (ns1=ns2) <;> rfl

theorem jsame {R:Type} (v w:Json) (hl:IC v=true):∃r:Bool,(r=true↔v=w)∧∀k:Bool→Option R,ly v w k=k r:=jsame_N (v.depth+2) v w hl (by omega)
end Go.Proofs.YtmlkkgfenfdndaaGreatDoor

/-
 Functions of the program as pure Lean functions, and the ties; printed by wip/tools/emit.py.
-/
set_option maxRecDepth 100000
namespace Go.Proofs.YtmlkkgfenfdndaaGreatDoor
open Go Go.aF

end Go.Proofs.YtmlkkgfenfdndaaGreatDoor

/-
 Functions of the program as pure Lean functions, and the ties; printed by wip/tools/emit.py.
-/
set_option maxRecDepth 100000
namespace Go.Proofs.YtmlkkgfenfdndaaGreatDoor
open Go Go.aF

end Go.Proofs.YtmlkkgfenfdndaaGreatDoor

/-
 Functions of the program as pure Lean functions, and the ties; printed by wip/tools/emit.py.
-/
set_option maxRecDepth 100000
namespace Go.Proofs.YtmlkkgfenfdndaaGreatDoor
open Go Go.aF

end Go.Proofs.YtmlkkgfenfdndaaGreatDoor

set_option maxRecDepth 100000
namespace Go.Proofs.YtmlkkgfenfdndaaGreatDoor
open Go Go.aF Go.Lib

theorem aar {x:Raw} (h:∃n,MY n (Ty.cells .raw x)∧n≤1048576):Raw.ok x∧Raw.tot x≤1048576:=by
 obtain ⟨n,h1,h2⟩:=h
 obtain ⟨g1,g2⟩:=aak x n h2 h1
 exact ⟨g2,by omega⟩

structure Lone (x:oA):Prop where
 head:∃c u,x.2.1=c::u∧qp c=false
 met:∀r,Gw r→tokS (x.2.1++r)=some (x.2.2,r)
 quo:x.2.2.kind=2→gE x.2.2.text=true∧x.2.1=MC x.2.2.text
 own:x.2.2.kind≠2→x.2.2.text=x.2.1

theorem FM {x:oA} (h:∀r,Gw r→okW [x] r) (h2:x.2.2.kind=2→gE x.2.2.text=true∧x.2.1=MC x.2.2.text) (h3:x.2.2.kind≠2→x.2.2.text=x.2.1):Lone x:=by
 obtain ⟨_,g2,_⟩:=h [] (.inl rfl)
 exact ⟨g2,fun r hr=>(h r hr).2.2.1,h2,h3⟩
theorem DK {c:UInt8} (hc:Hd c=true):Lone (sg c):=FM (fun r _=>yJ hc r) (fun h=>by cases h) (fun _=>rfl)
theorem U2 {t:aj} (ht:gE t=true):Lone (TK t):=FM (fun r _=>MF ht r) (fun _=>⟨ht,rfl⟩) (fun h=>(h rfl).elim)

mutual
theorem loneJ:∀(v:Json) (d:Int),fI v d=true→∀x∈qs v,Lone x
 | ⟨k,n,t,ns,is⟩,d,h,x,hx=>by
  have hL:=loneL is
  have hO:=loneO ns is
  cases lr.1 h with
  | name _ _ hd hk =>
   rcases hk with rfl|rfl|rfl
   ·obtain rfl:=List.mem_singleton.1 hx
    exact FM (fun r hr=>yI (Aw (.inr (.inr rfl))) hr) (fun h=>by cases h) (fun _=>rfl)
   ·obtain rfl:=List.mem_singleton.1 hx
    exact FM (fun r hr=>yI (Aw (.inr (.inl rfl))) hr) (fun h=>by cases h) (fun _=>rfl)
   ·obtain rfl:=List.mem_singleton.1 hx
    exact FM (fun r hr=>yI (Aw (.inl rfl)) hr) (fun h=>by cases h) (fun _=>rfl)
  | num _ _ hd hn =>
   have e:yK n=Nc n:=by unfold yK; rw[FK.2 hn]; rfl
   have Q9:x∈([([],yK n,⟨3,yK n,n,0⟩)]:List oA):=hx
   obtain rfl:=List.mem_singleton.1 Q9
   refine FM (fun r hr => ?_) (fun h=>by cases h) (fun _=>rfl)
   rw[e]
   exact yI (RN hn) hr
  | text _ _ hd ht =>
   have Q9:x∈([TK t]:List oA):=hx
   obtain rfl:=List.mem_singleton.1 Q9
   exact U2 ht
  | arr _ _ hd hi =>
   have Q9:x∈([sg 91]++(oW is true ++ [sg 93]):List oA):=hx
   rw[List.mem_append,List.mem_append,List.mem_singleton,List.mem_singleton]at Q9
   rcases Q9 with rfl|hx|rfl
   ·exact DK (by decide)
   ·exact hL true (d+1) hi x hx
   ·exact DK (by decide)
  | obj _ _ _ hd hl hu hi =>
   have Q9:x∈([sg 123]++(ml ns is true ++ [sg 125]):List oA):=hx
   rw[List.mem_append,List.mem_append,List.mem_singleton,List.mem_singleton]at Q9
   rcases Q9 with rfl|hx|rfl
   ·exact DK (by decide)
   ·exact hO true (d+1) hi hl (fun t ht=>DI ns [] hu t ht) x hx
   ·exact DK (by decide)
theorem loneL:∀(l:List Json) (first:Bool) (d:Int),fJ l d=true→∀x∈oW l first,Lone x
 | [],_,_,_,x,hx=>by simp[oW]at hx
 | y::l,first,d,h,x,hx=>by
  simp only[fJ,Bool.and_eq_true]at h
  have h1:=loneJ y d h.1
  have h2:=loneL l false d h.2
  simp only[oW,List.mem_append]at hx
  rcases hx with hx|hx|hx
  ·cases first
   ·simp at hx; rw[hx]; exact DK (by decide)
   ·simp at hx
  ·exact h1 x hx
  ·exact h2 x hx
theorem loneO:∀(ns:List aj) (l:List Json) (first:Bool) (d:Int),fJ l d=true→ns.length=l.length→(∀t∈ns,gE t=true)→∀x∈ml ns l first,Lone x
 | _, [],_,_,_,_,_,x,hx=>by simp[ml]at hx
 | [],y::l,_,_,_,hl,_,_,_=>by cases hl
 | n::ns,y::l,first,d,h,hl,hv,x,hx=>by
  simp only[fJ,Bool.and_eq_true]at h
  have h1:=loneJ y d h.1
  have h2:=loneO ns l false d h.2 (by simpa using hl) (fun t ht=>hv t (by simp[ht]))
  simp only[ml,List.headD_cons,List.tail_cons,List.mem_append,List.mem_cons]at hx
  rcases hx with hx|rfl|rfl|hx|hx
  ·cases first
   ·simp at hx; rw[hx]; exact DK (by decide)
   ·simp at hx
  ·exact U2 (hv n (by simp))
  ·exact DK (by decide)
  ·exact h1 x hx
  ·exact h2 x hx
end

theorem qb_pos (b:UInt8):1≤(qb b).length:=by unfold qb; (repeat' split) <;> simp
theorem aas (t:aj):t.length≤(MC t).length:=by
 have:∀l:aj,l.length≤(l.flatMap qb).length:=by
  intro l
  induction l with
  | nil=>simp
  | cons b l ih =>
   have:=qb_pos b
   simp only[List.flatMap_cons,List.length_append,List.length_cons]
   omega
 have:=this t
 unfold MC
 simp only[List.length_cons,List.length_append]
 omega


mutual
theorem OO:∀(v:Json) (d:Int),fI v d=true→(gk v).length≤10000000000→IC v=true∧1≤(gk v).length
 | ⟨k,n,t,ns,is⟩,d,h,hl=>by
  have hL:=M4 is true
  have hO:=M5 ns is true
  cases lr.1 h with
  | name _ _ hd hk=>rcases hk with rfl|rfl|rfl <;> exact ⟨rfl,by decide⟩
  | num _ _ hd hn =>
   refine ⟨rfl,?_⟩
   have:=RX ⟨4,n, [], [], []⟩ (by rw[lr]; exact .num n 1 (by omega) hn)
   cases hp:gk ⟨4,n, [], [], []⟩with
   | nil=>exact (this hp).elim
   | cons _ _=>simp
  | text _ _ hd ht =>
   have e:gk ⟨5,⟨0,0⟩,t, [], []⟩=MC t:=by simp only[gk]; rfl
   have:=aas t
   rw[e]at hl ⊢
   exact ⟨ur.2 ⟨by simp,by simp,rfl,by simp only; omega,by simp⟩,by simp[MC]⟩
  | arr _ _ hd hi =>
   have e:gk ⟨6,⟨0,0⟩, [], [],is⟩=91::(mj is true ++ [93]):=by simp only[gk]; rfl
   rw[e]at hl ⊢
   simp only[List.length_cons,List.length_append,List.length_nil]at hl
   obtain ⟨g1,g2⟩:=hL (d+1) hi (by omega)
   exact ⟨ur.2 ⟨by simp,by simp only; omega,g1,by simp,by simp⟩,by simp⟩
  | obj _ _ _ hd hlen hu hi =>
   have e:gk ⟨7,⟨0,0⟩, [],ns,is⟩=123::(lT ns is true ++ [125]):=by simp only[gk]; rfl
   rw[e]at hl ⊢
   simp only[List.length_cons,List.length_append,List.length_nil]at hl
   obtain ⟨g1,g2,g3⟩:=hO (d+1) hi hlen (by omega)
   exact ⟨ur.2 ⟨by simp only; omega,by simp only; omega,g1,by simp,g3⟩,by simp⟩
theorem M4:∀(l:List Json) (first:Bool) (d:Int),fJ l d=true→(mj l first).length≤10000000000→ID l=true∧l.length≤(mj l first).length
 | [],_,_,_,_=>⟨rfl,by simp⟩
 | x::l,first,d,h,hl=>by
  simp only[fJ,Bool.and_eq_true]at h
  have h1:=OO x d h.1
  have h2:=M4 l false d h.2
  simp only[mj,List.length_append]at hl ⊢
  obtain ⟨a1,a2⟩:=h1 (by omega)
  obtain ⟨b1,b2⟩:=h2 (by omega)
  refine ⟨by simp only[ID,a1,b1]; rfl,?_⟩
  simp only[List.length_cons]
  omega
theorem M5:∀(ns:List aj) (l:List Json) (first:Bool) (d:Int),fJ l d=true→ns.length=l.length→(lT ns l first).length≤10000000000→ID l=true∧l.length≤(lT ns l first).length∧∀n∈ns,n.length≤10000000000
 | ns, [],_,_,_,hlen,_=>by
  obtain rfl:ns = []:=List.eq_nil_of_length_eq_zero hlen
  exact ⟨rfl,by simp,by simp⟩
 | [],x::l,_,_,_,hlen,_=>by cases hlen
 | n::ns,x::l,first,d,h,hlen,hl=>by
  simp only[fJ,Bool.and_eq_true]at h
  have h1:=OO x d h.1
  have h2:=M5 ns l false d h.2 (by simpa using hlen)
  simp only[lT,List.length_append,List.headD_cons,List.tail_cons,List.length_cons]at hl ⊢
  obtain ⟨a1,a2⟩:=h1 (by omega)
  obtain ⟨b1,b2,b3⟩:=h2 (by omega)
  have h3:=aas n
  refine ⟨by simp only[ID,a1,b1]; rfl,by omega,fun m hm => ?_⟩
  rcases List.mem_cons.1 hm with rfl|hm
  ·omega
  ·exact b3 m hm
end


theorem wt_i64 {z:Int} (h:∃n,Wt n (.int .i64 z)∧n≤1048576):Cp z:=by
 obtain ⟨n,h,hn⟩:=h
 cases h with
 | int h1 hk=>exact H0.1 hk
theorem TY {R:Type} (v:Json) (hl:IC v=true) (k:Bool→Option R):ly v v k=k true:=by
 obtain ⟨r,h1,h2⟩:=jsame (R:=R) v v hl
 rw[h2,h1.2 rfl]


theorem pickTop {R:Type} (c n:Int) (hc:Cp c) (h0:0<n) (hn:n≤9223372036854775807):∃r:Int,0≤r∧r<n∧∀k:Int→Option R,top_pick c n k=k r:=H2 c n hc h0 hn
theorem w8 (n:Nat):IntKind.u8.wrap (n:Int)=((n % 256:Nat):Int):=by
 show ((n:Int) % 256)=_
 omega
theorem of8 (n:Nat):(BitVec.ofInt IntKind.u8.bits (n:Int)).toNat=n % 256:=by
 rw[BitVec.toNat_ofInt]
 show ((n:Int) % ((256:Nat):Int)).toNat=_
 omega
theorem xor8_ne (a:UInt8) (b:Nat) (hb:0<b) (KN:b<256):∃c:UInt8,c≠a∧IntKind.u8.wrap ((BitVec.ofInt IntKind.u8.bits (a.toNat:Int) ^^^ BitVec.ofInt IntKind.u8.bits (b:Int)).toNat:Int)=(c.toNat:Int):=by
 have ha:=UInt8.toNat_lt a
 have hx:a.toNat ^^^ b<256:=Nat.xor_lt_two_pow (n:=8) (by omega) (by omega)
 refine ⟨UInt8.ofNat (a.toNat ^^^ b),fun e => ?_,?_⟩
 ·have h1:a.toNat ^^^ b=a.toNat:=by
   have:=congrArg UInt8.toNat e
   rw[gf _ hx]at this
   exact this
  have h2:=congrArg (a.toNat ^^^ ·) h1
  simp only[←Nat.xor_assoc,Nat.xor_self,Nat.zero_xor]at h2
  omega
 ·rw[gf _ hx,BitVec.toNat_xor,of8,of8,Nat.mod_eq_of_lt (by omega),Nat.mod_eq_of_lt KN,w8,Nat.mod_eq_of_lt hx]
theorem unz_set (s:aj) (k:Nat) (c:UInt8):(List.map (fun n:Int=>UInt8.ofNat n.toNat) ((gD s).set k (c.toNat:Int)):aj)=s.set k c:=by
 have e:(gD s).set k (c.toNat:Int)=zs (s.set k c):=by
  show (s.map fun b=>(b.toNat:Int)).set k (c.toNat:Int)=_
  unfold zs
  rw[List.map_set]
 rw[e]
 exact unz _
theorem W4 (s:aj) (k:Nat) (hk:k<s.length):(gD s).getD k (Ty.bY (.int .u8))=(s[k].toNat:Int):=by
 have e1:((s.map fun b=>(b.toNat:Int)):List Int).getD k 0=(s[k].toNat:Int):=by
  rw[List.getD_eq_getElem?_getD,List.getElem?_map,List.getElem?_eq_getElem hk]
  rfl
 exact e1

theorem topTexts_true {R:Type} (x:Raw) (a b:Int) (h2:∃n,MY n (Ty.cells .raw x)∧n≤1048576) (h3:∃n,Wt n (.int .i64 a)∧n≤1048576) (h4:∃n,Wt n (.int .u8 b)∧n≤1048576) (k:Bool→Option R):top_TopTexts x a b k=k true:=by
 obtain ⟨o1,t1⟩:=aar h2
 have hb:0≤b∧b≤255:=by
  obtain ⟨n,h,_⟩:=h4
  cases h with
  | int h1 hk=>simpa [IntKind.has,IntKind.min,IntKind.max,IntKind.signed,IntKind.bits]using hk
 obtain ⟨v,hv,rv⟩:=jfit (R:=R) x o1 1 (by omega) (by omega)
 have e:top_TopTexts x a b k=top_TopTexts_X mc top_pick kv kf ly lk fe x a b k:=rfl
 rw[e]
 unfold top_TopTexts_X
 simp only[Raw.eta,Json.eta]
 have pv:=fun q:aj→Option R=>TV v hv.right hv.len (by have:=hv.size; omega) q
 have jc:(gk v==([]:aj))=false:=by simpa using RX v hv.right
 rw[rv,pv,jc,cond_false]
 by_cases hl:(gk v).length>20000
 ·rw[bf (show ((gk v).length:Int)>20000 by omega)]
  rfl
 rw[cI (show ¬((gk v).length:Int)>20000 by omega),cond_false,UF _ (by omega),UH _ (by rw[xy]; omega),Oi]
 simp only
 rw[WY,RW hv.right (by omega)]
 simp only
 rw[show ((0:Int) != 0)=false from rfl,cond_false,cond_false,TY v hv.len,Bool.not_true,cond_false]
 have hlen:=xy (gk v)
 have hz:(((iV (gk v)).length:Int)==0)=false:=by rw[beq_eq_false_iff_ne]; omega
 rw[hz,cond_false]
 obtain ⟨y,y0,y1,hy⟩:=pickTop (R:=R) a ((iV (gk v)).length:Int) (wt_i64 h3) (by omega) (by omega)
 rw[hy]
 have hyl:y.toNat<(iV (gk v)).length:=by omega
 have c1:(decide ((0:Int)≤y)&&decide (y<((iV (gk v)).length:Int)))=true:=by rw[bf y0,bf y1]; rfl
 have c2:decide (y.toNat<(gD (iV (gk v))).length)=true:=bf (by rw[Cs,Dg]; exact hyl)
 rw[aL c1,aL c2,aL c1,aL c2,W4 _ _ hyl]
 obtain ⟨z,hz0,hz1,hz2⟩:∃z:Nat,0<z∧z<256∧IntKind.u8.wrap (1+Int.tmod b 255)=(z:Int):=by
  have hm:Int.tmod b 255=b % 255:=Int.tmod_eq_emod_of_nonneg hb.1
  refine ⟨(1+b % 255).toNat,by omega,by omega,?_⟩
  rw[hm]
  have:(1+b % 255)=(((1+b % 255).toNat:Nat):Int):=by omega
  rw[this,w8]
  omega
 rw[hz2]
 obtain ⟨c,hc1,hc2⟩:=xor8_ne (iV (gk v))[y.toNat] z hz0 hz1
 rw[hc2,unz_set,UH _ (by rw[List.length_set,xy]; omega),PE _ _ c hyl (Ne.symm hc1)]
 rfl
end Go.Proofs.YtmlkkgfenfdndaaGreatDoor

set_option maxRecDepth 100000
namespace Go.Proofs.YtmlkkgfenfdndaaGreatDoor.topTexts
open Go.ChangeShapes Go.WideShapes Go.ChangeAt Go.RowKit Go.aF Door

theorem run (a0:Raw) (a1:Int) (a2:Int):bj top_TopTexts_p top_TopTexts_q (top_TopTexts_rr top_TopTexts) aZ [.agg [.int .i64 a0.kind, .int .i64 a0.aB, .int .i64 a0.exp, .sl (.int .i64) a0.text .no, .sl .raw a0.items .no], .int .i64 a1, .int .u8 a2] [] kOk=top_TopTexts a0 a1 a2 (fun q0=>kOk (.bool q0) []):=by kernel_rfl

theorem aat (H:Type) (enc:TypeId × Value→H) (W:World) (base:Nat) (args:Array Value) (ds gs:List (DataW H)) (before:List MemPlace)
  (BK:∀(j:Nat) t v,Tryz.f3.params[j]? = some t→args[j]? = some v→Value.okWide Tryz.prog W .any base t v)
  (hW:DataW.Whole enc Tryz.prog Tryz.f3.params.toList Rows.topTextsSpec.vars false W args.toList ds gs before) (hL:laidMetH Tryz.prog Rows.topTextsUptoRow.laid W) (hk:Rows.uptoSmall H (ds++gs)=true) :
  Calls Tryz.prog 3 args W fun e W'=>∃v,e = .returned v∧Rows.topTextsSpec.post enc Tryz.prog Tryz.f3 false true false false W args v W':=by
 have hW':=hW
 obtain ⟨p,q,hA0,hV,hpq,T7,D0⟩:=hW
 have hA:DataW.TrodAll enc Tryz.prog W 0 (fun _=>true) true [25,3,5] args.toList ds p:=hA0
 have BK:∀(j:Nat) t v,(#[25,3,5]:Array Nat)[j]? = some t→args[j]? = some v→Value.okWide Tryz.prog W .any base t v:=BK
 obtain ⟨v0,vs0,d0,ds0,p0,q0,Uj,rfl,rfl,h0,r0⟩:=trodAll_cons hA
 obtain ⟨v1,vs1,d1,ds1,p1,q1,rfl,rfl,rfl,h1,r1⟩:=trodAll_cons r0
 obtain ⟨v2,vs2,d2,ds2,p2,q2,rfl,rfl,rfl,h2,r2⟩:=trodAll_cons r1
 obtain ⟨rfl,rfl,rfl⟩:=trodAll_nil r2
 obtain rfl:args = #[v0,v1,v2]:=by cases args; simp_all
 have hV':DataW.TrodVars enc Tryz.prog W (fun _=>true) [] gs q:=hV
 obtain ⟨rfl,rfl⟩:=trodVars_none hV'
 have hb:Rows.uptoBulkAll ([d0,d1,d2] ++ [])≤1048576:=of_decide_eq_true hk
 simp only[List.append_nil,Rows.uptoBulkAll]at hb
 obtain ⟨a0,q0,s0⟩:=aai (T := .raw) (N:=1048576) leaves (by kernel_rfl) (by kernel_rfl) (BK 0 25 v0 rfl rfl) h0 (by omega) (Nat.le_of_ble_eq_true rfl)
 obtain ⟨a1,q1,s1⟩:=RZ (p := .int .i64) (N:=1048576) leaves (by kernel_rfl) (by kernel_rfl) (BK 1 3 v1 rfl rfl) h1 (by omega) (Nat.le_of_ble_eq_true rfl)
 obtain ⟨a2,q2,s2⟩:=RZ (p := .int .u8) (N:=1048576) leaves (by kernel_rfl) (by kernel_rfl) (BK 2 5 v2 rfl rfl) h2 (by omega) (Nat.le_of_ble_eq_true rfl)
 have ra:cy W [] Kb [.agg [.int .i64 a0.kind, .int .i64 a0.aB, .int .i64 a0.exp, .sl (.int .i64) a0.text .no, .sl .raw a0.items .no], .int .i64 a1, .int .u8 a2] #[v0,v1,v2].toList:=(.cons q0 (.cons q1 (.cons q2 .nil)))
 obtain ⟨hsays,hblocks⟩:=lay_met (W:=W) hL
 refine (S1 Tryz.func3 rfl rfl (top_TopTexts_S_ok Unit _ (aK _)) hsays hblocks ra ((run a0 a1 a2).trans (topTexts_true a0 a1 a2 s0 s1 s2 (fun q0=>kOk (.bool q0) [])))).mono fun e W' ⟨he,L⟩=>⟨_,he,?_⟩
 exact Wa (by kernel_rfl) (V9 (by kernel_rfl)) rfl rfl rfl (show Tryz.prog.underlying 4=some .bool by kernel_rfl) hW' L

theorem reads (os:Os) {H:Type} (enc:TypeId × Value→H):(DataW.whole enc Tryz.prog ((Jg os).forCall (fun _ _=>0) ⟨#[], #[.agg #[.int .i64 0, .int .i64 0, .int .i64 0, .slice none 0 0, .slice none 0 0], .int .i64 0, .int .u8 0], []⟩).memory Tryz.f3.params.toList Rows.topTextsSpec.vars false (#[.agg #[.int .i64 0, .int .i64 0, .int .i64 0, .slice none 0 0, .slice none 0 0], .int .i64 0, .int .u8 0]:Array Value).toList 8).map (fun x=>(x.1,x.2.1))=some ([.agg [.lit (.int .i64 0), .lit (.int .i64 0), .lit (.int .i64 0), .nil, .nil], .lit (.int .i64 0), .lit (.int .u8 0)], []):=by kernel_rfl
theorem lifted (os:Os) (started:os.Started) (H:Type) (enc:TypeId × Value→H) (F:Stop.Interp) :
  ReturnsInHanded {} Tryz.checked os 3 .any ((Rows.OpenSpec.upto Rows.topTextsSpec).preRow enc Tryz.prog Tryz.f3 Rows.topTextsUptoRow.domain false Rows.topTextsUptoRow.laid) (((Rows.OpenSpec.upto Rows.topTextsSpec).at F).post enc Tryz.prog Tryz.f3 false true false false):=by
 obtain ⟨⟨x1,x2,x3⟩,hx,hx1⟩:=Option.map_eq_some_iff.1 (reads os enc)
 simp only[Prod.mk.injEq]at hx1
 obtain ⟨rfl,rfl⟩:=hx1
 refine returnsInHanded_of_row (C:=Tryz.checked) (s:=Rows.OpenSpec.upto Rows.topTextsSpec) own started (by kernel_rfl) Tryz.func3
  (witness_row_atRef (enc:=enc) (C:=Tryz.checked) false (Jg os) #[.agg #[.int .i64 0, .int .i64 0, .int .i64 0, .slice none 0 0, .slice none 0 0], .int .i64 0, .int .u8 0] rfl (by kernel_rfl) (by kernel_rfl) (by kernel_rfl)
   (OpenSpec.preRow_of_cond 8 hx (by kernel_rfl) (fun k hk=>by cases hk; kernel_rfl) (by kernel_rfl) (YY os _))) ?_
 intro W base args ds gs before BK hW _ sV _ hL _ _
 exact aat H enc W base args ds gs before BK hW hL (sV _ rfl)

theorem aau:Rows.TopTextsUptoSaid :=
 OpenClaim.holds_of_cond 3 Tryz.f3 rfl rfl rfl rfl rfl rfl rfl ⟨rfl,rfl,rfl,rfl,rfl⟩ rfl rfl rfl rfl rfl (by kernel_rfl) Tryz.func3 (by kernel_rfl)
  (of_decide_eq_true (by kernel_rfl)) (by unfold Func.isWrapper; first|(rw[if_pos (by decide +kernel)]; kernel_rfl)|(rw[if_neg (by decide +kernel)]; exact ⟨rfl,rfl⟩))
  (fun os started H enc _ F=>by rw[OpenClaim.pre_eq_preRow]; exact lifted os started H enc F)

theorem plain (f:FuncId) (fn:Func) (hf:Tryz.pinned.checked.prog.funcNamed "humpyard/humpyardtop.TopTexts" = some f) (hfn:Tryz.pinned.checked.prog.funcs[f]? = some fn) :
  true=Tryz.pinned.checked.prog.looks []∧∀(j:Nat) t,fn.params[j]? = some t→Tryz.pinned.checked.prog.wantsStandIn t=false:=by
 obtain rfl:f=3:=Option.some.inj ((show Tryz.prog.funcNamed "humpyard/humpyardtop.TopTexts" = some 3 by kernel_rfl).symm.trans hf) |>.symm
 obtain rfl:fn=Tryz.f3:=(Option.some.inj (Tryz.func3.symm.trans hfn)).symm
 refine ⟨by kernel_rfl,fun j t ht => ?_⟩
 have wY:Tryz.f3.params.toList.all (fun t => !Tryz.prog.wantsStandIn t)=true:=by kernel_rfl
 have hm:t∈Tryz.f3.params.toList:=Array.mem_toList_iff.2 (Array.mem_of_getElem? ht)
 have:=List.all_eq_true.1 wY t hm
 exact (show Tryz.prog.wantsStandIn t=false by simpa using this)
end Go.Proofs.YtmlkkgfenfdndaaGreatDoor.topTexts
namespace Go.Proofs.YtmlkkgfenfdndaaGreatDoor
open Go.RowKit
theorem topTexts_card_upto:Rows.TopTextsUptoCardSaid :=
 Claim7.holds_tied_plain_at .later [] _ _ _ _ topTexts.aau (fun _ h=>by cases h) (by kernel_rfl) (fun _ h=>by cases h) topTextsUpto_row_tie rfl ⟨rfl,rfl⟩ (by kernel_rfl) rfl topTexts.plain (by kernel_rfl)
end Go.Proofs.YtmlkkgfenfdndaaGreatDoor
end
