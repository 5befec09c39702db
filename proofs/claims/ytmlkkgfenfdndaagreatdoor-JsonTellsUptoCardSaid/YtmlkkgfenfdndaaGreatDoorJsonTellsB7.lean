/-
  JsonTells, part 7 of 10.
-/
import Derived.Test.YtmlkkgfenfdndaaGreatDoorJsonTellsB6
set_option linter.unusedSimpArgs false
set_option linter.unnecessarySimpa false
set_option linter.unusedVariables false
set_option linter.unusedSectionVars false
noncomputable section
set_option maxRecDepth 100000
namespace Go.Proofs.YtmlkkgfenfdndaaGreatDoor
open Go Go.bb
variable {R:Type}
abbrev xO (R:Type):Type:=af→(af→Int→Bool→Option R)→Option R
abbrev FG:List dh := [.leaf (.str)]
abbrev FH:List aY := []
def KK (fn:xO R):oC R FG FH:=fun x y k=>fn x.1 (fun q0 q1 q2=>k (.tuple [.str q0, .int .i64 q1, .bool q2]) [])
def Nh (fn:xO R):=aG FG FH (KK fn)
abbrev wY (R:Type):Type:=Nat→af→af→(List Int)→(af→af→(List Int)→Option R)→(af→af→Int→Bool→af→(List Int)→Option R)→Option R
def sO:Hint := { live := [0,5,6],own := [],rows := [],cells := [(1,1,(.int .u8),false)],drop := [],out := [0,2,3,4,5,6] }
abbrev lG:Type:=af×af×(List Int)
def vM:lG→St:=fun d=>⟨.str d.1::U 4 (.ptr 0 0 :: .ptr 1 0::U 32 ([])), [.cells [.str d.2.1], .ng (.sl (.int .u8) d.2.2 (.own 2)), .tok]⟩
def wZ (K:Ex→St→Option R) (q0:af) (q1:af) (q2:List Int):Option R:=K (.exit 0) ⟨.str q0::U 4 (.ptr 0 0 :: .ptr 1 0::U 32 ([])), [.cells [.str q1], .ng (.sl (.int .u8) q2 (.own 2)), .tok]⟩
def w9 (K:Ex→St→Option R) (q0:af) (q1:af) (q2:Int) (q3:Bool) (q4:af) (q5:List Int):Option R:=K (.ret) ⟨.str q0 :: .undef :: .str q1 :: .int .i64 q2 :: .bool q3 :: .ptr 0 0 :: .ptr 1 0::U 32 ([]), [.cells [.str q4], .ng (.sl (.int .u8) q5 (.own 2)), .tok]⟩
abbrev nY:List dh := .leaf (.str)::PU 4 (.leaf (.ptr 0 0) :: .leaf (.ptr 1 0)::PU 32 ([]))
abbrev nZ:List aY := [.cells [.str], .ng (.Ui (.int .u8) 2), .tok]
def F8 (x:dh.bD nY) (y:aY.bD nZ):Nat:=(List.length x.1+List.length y.1.1+List.length y.2.1+64)
def PK (x:dh.bD nY) (y:aY.bD nZ):lG:=(x.1,y.1.1,y.2.1)
def E8 (L:wY R):sI R nY nZ:=fun x y K=>L (F8 x y) x.1 y.1.1 y.2.1 (wZ K) (w9 K)
section
variable (aq:fP R) (aP:jD R) (bQ:lq R) (bx:jW R) (bC:wY R)
def qy:List (sS R) := [(53,false,(k8 aq aC)),(39,false,(LQ R)),(107,false,(rV aP aC)),(108,false,(yp bQ aC)),(109,false,(v8 bx aC))]
def sP (cb:af→af→(List Int)→Option R) (x4:af) (x5:af) (x6:List Int) (e0:af→af→(List Int)→Option R) (e1:af→af→Int→Bool→af→(List Int)→Option R):Option R :=
 aP ([34]:af) x5 (fun y7 y8=>bif (!y7)then (aP ([92]:af) y8 (fun y9 o5=>bif y9 then (bx o5 (fun jf l9=>bif (decide (jf<(0:Int)))then (e1 x4 ([]:af) 0 false l9 x6)else (aq jf x6 (fun DN xy=>cb x4 l9 xy))))else (bQ o5 (fun yI Fp=>bif (decide (yI<(0:Int)))then (e1 x4 ([]:af) 0 false Fp x6)else (aq yI x6 (fun KD NX=>cb x4 Fp NX))))))else (e0 x4 y8 x6))
def F9 (K:Ex→St→Option R) (rc:lG→Option R) (d:lG):Option R:=sP aq aP bQ bx (fun z0 z1 z2=>rc (z0,z1,z2)) d.1 d.2.1 d.2.2 (wZ K) (w9 K)
def vk:Nat→Option (Hint×cF R):=fun i=>match i with
 | 5=>some (sO,(cq nY nZ (E8 bC) gl))
 | _=>none
theorem Mm (K:Ex→St→Option R) (rc:St→Option R) (d:lG):roundOf tt (cz (qy aq aP bQ bx)) (vk bC) 0 ((aA (aQ Tryz.f70)).getD 0 .skip) sO (vM d) rc K=F9 aq aP bQ bx K (fun d=>rc (vM d)) d:=by kernel_rfl
def Ax (x1:af) (k0:af→Int→Bool→Option R):Option R :=
 aP ([34]:af) x1 (fun y2 y3=>bif (!y2)then (k0 ([]:af) 0 false)else (bC (List.length x1+List.length y3+List.length ([]:List Int)+64) x1 y3 ([]:List Int) (fun Cw Qs D7=>k0 (wN D7) (IntKind.i64.wrap ((Cw.length:Int) - (Qs.length:Int))) true) (fun y22 y23 y24 Kg SQ BQ=>k0 y23 y24 Kg)))
theorem Uz:fC (R:=R) tt (qy aq aP bQ bx) (vk bC) false Tryz.f70 FG FH (KK (Ax aP bC)):=fun x y k=>by kernel_rfl
end
theorem SZ:dy (R:=R) Tryz.prog (qy (R:=R) aq aP bQ bx) := .d (oI R) rfl <| .s (Xc) Pw <| .d (vY R) rfl <| .d (FF R) rfl <| .d (Eb R) rfl <| .n
def bC:wY R
 | 0,_,_,_,_,_=>none
 | n+1,eh,eB,fb,e0,e1=>sP aq aP bQ bx (fun eh eB fb=>bC n eh eB fb e0 e1) eh eB fb e0 e1
def Ga (K:Ex→St→Option R) (n:Nat) (d:lG):Option R:=bC n d.1 d.2.1 d.2.2 (wZ K) (w9 K)
theorem OI (other:cF R) (ho:fZ tt (cz (qy (R:=R) aq aP bQ bx)) (vk (R:=R) bC) 0 ((aA (aQ Tryz.f70)).getD 0 .skip) sO other):fZ tt (cz (qy (R:=R) aq aP bQ bx)) (vk (R:=R) bC) 0 ((aA (aQ Tryz.f70)).getD 0 .skip) sO (cq nY nZ (E8 (bC)) other) :=
 cx (A:=Ga) ho (dD vM (F9 aq aP bQ bx) (Ga) (fun _ _=>by kernel_rfl) (Mm aq aP bQ bx bC) (fun _ _ _=>by kernel_rfl)) F8 PK (fun _ _=>by kernel_rfl) (fun _ _ _=>by kernel_rfl)
def gm:xO R:=fun x1 k0=>Ax aP bC x1 k0
theorem PL (R:Type):∀a∈aA (aQ Tryz.f70),gE tt (cz (qy (R:=R) aq aP bQ bx)) (vk (R:=R) bC) 0 a:=by
 refine eV 1 (by kernel_rfl) fun i hi => ?_
 match i,hi with
 | 0,_=>exact bT (by kernel_rfl) (OI _ cQ)
 | n+1,hi=>omega
theorem Ry (R:Type):od Tryz.prog 70 (Nh (gm (R:=R))):=bS TT mixed (SZ (R:=R)) rfl rfl rfl rfl (PL R) (Uz aq aP bQ bx bC)
abbrev EB (R:Type):Type:=af→(Token→Int→Option R)→Option R
abbrev Mn:List dh := [.leaf (.str)]
abbrev Mo:List aY := []
def Qw (fn:EB R):oC R Mn Mo:=fun x y k=>fn x.1 (fun q0 q1=>k (.tuple [.agg [.int .i64 q0.kind, .str q0.text, .int .i64 q0.num.au, .int .i64 q0.num.exp, .int .i64 q0.at_], .int .i64 q1]) [])
def S0 (fn:EB R):=aG Mn Mo (Qw fn)
section
variable (gm:xO R) (eK:xM R) (cV:wT R)
def S1:List (sS R) := [(70,true,(Nh gm aC)),(69,true,(Nf eK aC)),(71,true,(idx_S R)),(47,true,(JI cV aC))]
def GF (x1:af) (k0:Token→Int→Option R):Option R :=
 bB (decide ((0:Int)<x1.length)) (let j23:=cV x1 ([97,98,99,100,101,102,103,104,105,106,107,108,109,110,111,112,113,114,115,116,117,118,119,120,121,122]:af) (fun D7=>bif (D7==([116,114,117,101]:af))then (k0 (⟨4,D7,⟨0,0⟩,0⟩:Token) (D7.length:Int))else (bif (D7==([102,97,108,115,101]:af))then (k0 (⟨4,D7,⟨0,0⟩,0⟩:Token) (D7.length:Int))else (bif (!(D7==([110,117,108,108]:af)))then (k0 (⟨0,([]:af),⟨0,0⟩,0⟩:Token) 0)else (k0 (⟨4,D7,⟨0,0⟩,0⟩:Token) (D7.length:Int))))); bif (((x1.getD 0 0).toNat:Int)==45)then (cV x1 ([48,49,50,51,52,53,54,55,56,57,43,45,46,101,69]:af) (fun y6=>eK y6 (fun y7 y8=>bif (!y8)then (k0 (⟨0,([]:af),⟨0,0⟩,0⟩:Token) 0)else (k0 (⟨3,y6,⟨y7.au,y7.exp⟩,0⟩:Token) (y6.length:Int)))))else (bif (decide (((x1.getD 0 0).toNat:Int)≥(48:Int)))then (bif (decide (((x1.getD 0 0).toNat:Int)≤(57:Int)))then (cV x1 ([48,49,50,51,52,53,54,55,56,57,43,45,46,101,69]:af) (fun y9=>eK y9 (fun o5 jf=>bif (!jf)then (k0 (⟨0,([]:af),⟨0,0⟩,0⟩:Token) 0)else (k0 (⟨3,y9,⟨o5.au,o5.exp⟩,0⟩:Token) (y9.length:Int)))))else (bif (((x1.getD 0 0).toNat:Int)==34)then (gm x1 (fun yI Fp KD=>bif (!KD)then (k0 (⟨0,([]:af),⟨0,0⟩,0⟩:Token) 0)else (k0 (⟨2,yI,⟨0,0⟩,0⟩:Token) Fp)))else (bif (decide ((Et ([123,125,91,93,44,58]:af) ((x1.getD 0 0).toNat:Int))≥(0:Int)))then (bB (decide ((1:Int)≤x1.length)) (k0 (⟨1,((x1.drop 0).take (1 - 0)),⟨0,0⟩,0⟩:Token) 1))else (j23))))else (bif (((x1.getD 0 0).toNat:Int)==34)then (gm x1 (fun NX Cw Qs=>bif (!Qs)then (k0 (⟨0,([]:af),⟨0,0⟩,0⟩:Token) 0)else (k0 (⟨2,NX,⟨0,0⟩,0⟩:Token) Cw)))else (bif (decide ((Et ([123,125,91,93,44,58]:af) ((x1.getD 0 0).toNat:Int))≥(0:Int)))then (bB (decide ((1:Int)≤x1.length)) (k0 (⟨1,((x1.drop 0).take (1 - 0)),⟨0,0⟩,0⟩:Token) 1))else (j23)))))
theorem lexer_next_ok:fC (R:=R) tt (S1 gm eK cV) AL false Tryz.f48 Mn Mo (Qw (GF gm eK cV)):=fun x y k=>by kernel_rfl
end
theorem YM:dy (R:=R) Tryz.prog (S1 (R:=R) gm eK cV) := .c (Ry R) <| .c (Rv R) <| .p (idx_ok) <| .c (KG R) <| .n
def iq:EB R:=fun x1 k0=>GF gm eK cV x1 k0
theorem Wj (R:Type):od Tryz.prog 48 (S0 (iq (R:=R))):=bS TT mixed (YM (R:=R)) rfl rfl rfl rfl dM (lexer_next_ok gm eK cV)
abbrev EC (R:Type):Type:=af→((List Token)→Int→Int→Option R)→Option R
abbrev Mp:List dh := [.leaf (.str)]
abbrev Mq:List aY := []
def Qx (fn:EC R):oC R Mp Mq:=fun x y k=>fn x.1 (fun q0 q1 q2=>k (.tuple [.sl .token q0 .no, .int .i64 q1, .int .i64 q2]) [])
def S2 (fn:EC R):=aG Mp Mq (Qx fn)
abbrev CA (R:Type):Type:=Nat→af→(List Token)→Int→((List Token)→Int→Int→Option R)→(Int→Int→Option R)→Option R
def xP:Hint := { live := [0,2,4],own := [(2, .token)],rows := [],cells := [],drop := [],out := [2,3,4] }
abbrev oR:Type:=af×(List Token)×Int
def A2:oR→St:=fun d=>⟨.str d.1 :: .undef :: .sl .token d.2.1 (.own 0) :: .undef :: .int .i64 d.2.2::U 40 ([]), [.tok]⟩
def CB (K:Ex→St→Option R) (q0:List Token) (q1:Int) (q2:Int):Option R:=K (.ret) ⟨U 2 (.sl .token q0 (.own 0) :: .int .i64 q1 :: .int .i64 q2::U 40 ([])), [.tok]⟩
def CC (K:Ex→St→Option R) (q0:Int) (q1:Int):Option R:=K (.ret) ⟨U 2 (.cG :: .int .i64 q0 :: .int .i64 q1::U 40 ([])), []⟩
abbrev tj:List dh := .leaf (.str) :: .leaf (.undef) :: .leaf (.Ui .token 0) :: .leaf (.undef) :: .leaf (.int .i64)::PU 40 ([])
abbrev tm:List aY := [.tok]
def KL (x:dh.bD tj) (y:aY.bD tm):Nat:=(List.length x.1+List.length x.2.2.1+Int.natAbs x.2.2.2.2.1+64)
def UA (x:dh.bD tj) (y:aY.bD tm):oR:=(x.1,x.2.2.1,x.2.2.2.2.1)
def I5 (L:CA R):sI R tj tm:=fun x y K=>L (KL x y) x.1 x.2.2.1 x.2.2.2.2.1 (CB K) (CC K)
section
variable (iq:EB R) (cV:wT R) (dA:CA R)
def xQ:List (sS R) := [(48,true,(S0 iq aC)),(47,true,(JI cV aC))]
def Ec (cb:af→(List Token)→Int→Option R) (x2:af) (x3:List Token) (x4:Int) (e0:(List Token)→Int→Int→Option R) (e1:Int→Int→Option R):Option R :=
 bB (decide ((0:Int)≤(x2.length:Int))&&decide ((x2.length:Int)≤x2.length)) (bB (decide ((0:Int)≤x4)&&decide (x4≤(x2.length:Int))) (cV ((x2.drop x4.toNat).take ((x2.length:Int).toNat - x4.toNat)) ([32,9,10,13]:af) (fun y5=>bif ((IntKind.i64.wrap (x4+(y5.length:Int)))==(x2.length:Int))then (bB (decide ((x3.length+1)*48≤140737488355328)) (e0 (x3++([(⟨5,([]:af),⟨0,0⟩,(IntKind.i64.wrap (x4+(y5.length:Int)))⟩:Token)]:List Token)) 0 0))else (bB (decide ((0:Int)≤(x2.length:Int))&&decide ((x2.length:Int)≤x2.length)) (bB (decide ((0:Int)≤(IntKind.i64.wrap (x4+(y5.length:Int))))&&decide ((IntKind.i64.wrap (x4+(y5.length:Int)))≤(x2.length:Int))) (iq ((x2.drop (IntKind.i64.wrap (x4+(y5.length:Int))).toNat).take ((x2.length:Int).toNat - (IntKind.i64.wrap (x4+(y5.length:Int))).toNat)) (fun y6 y7=>bif (y7==0)then (e1 30 (IntKind.i64.wrap (x4+(y5.length:Int))))else (bB (decide ((x3.length+1)*48≤140737488355328)) (cb x2 (x3++([(⟨y6.kind,y6.text,⟨y6.num.au,y6.num.exp⟩,(IntKind.i64.wrap (x4+(y5.length:Int)))⟩:Token)]:List Token)) (IntKind.i64.wrap ((IntKind.i64.wrap (x4+(y5.length:Int)))+y7)))))))))))
def KM (K:Ex→St→Option R) (rc:oR→Option R) (d:oR):Option R:=Ec iq cV (fun z0 z1 z2=>rc (z0,z1,z2)) d.1 d.2.1 d.2.2 (CB K) (CC K)
def CD:Nat→Option (Hint×cF R):=fun i=>match i with
 | 3=>some (xP,(cq tj tm (I5 dA) gl))
 | _=>none
theorem PM (K:Ex→St→Option R) (rc:St→Option R) (d:oR):roundOf tt (cz (xQ iq cV)) (CD dA) 0 ((aA (aQ Tryz.f25)).getD 0 .skip) xP (A2 d) rc K=KM iq cV K (fun d=>rc (A2 d)) d:=by kernel_rfl
def GG (x1:af) (k0:(List Token)→Int→Int→Option R):Option R :=
 bif (decide ((x1.length:Int)>(20000:Int)))then (k0 ([]:List Token) 30 0)else (dA (List.length x1+List.length ([]:List Token)+Int.natAbs 0+64) x1 ([]:List Token) 0 (fun y8 y9 o5=>k0 y8 y9 o5) (fun jf l9=>k0 ([]:List Token) jf l9))
theorem lexer_Scan_ok:fC (R:=R) tt (xQ iq cV) (CD dA) false Tryz.f25 Mp Mq (Qx (GG dA)):=fun x y k=>by kernel_rfl
end
theorem YN:dy (R:=R) Tryz.prog (xQ (R:=R) iq cV) := .c (Wj R) <| .c (KG R) <| .n
def dA:CA R
 | 0,_,_,_,_,_=>none
 | n+1,eh,eB,fb,e0,e1=>Ec iq cV (fun eh eB fb=>dA n eh eB fb e0 e1) eh eB fb e0 e1
def KN (K:Ex→St→Option R) (n:Nat) (d:oR):Option R:=dA n d.1 d.2.1 d.2.2 (CB K) (CC K)
theorem S3 (other:cF R) (ho:fZ tt (cz (xQ (R:=R) iq cV)) (CD (R:=R) dA) 0 ((aA (aQ Tryz.f25)).getD 0 .skip) xP other):fZ tt (cz (xQ (R:=R) iq cV)) (CD (R:=R) dA) 0 ((aA (aQ Tryz.f25)).getD 0 .skip) xP (cq tj tm (I5 (dA)) other) :=
 cx (A:=KN) ho (dD A2 (KM iq cV) (KN) (fun _ _=>by kernel_rfl) (PM iq cV dA) (fun _ _ _=>by kernel_rfl)) KL UA (fun _ _=>by kernel_rfl) (fun _ _ _=>by kernel_rfl)
def nI:EC R:=fun x1 k0=>GG dA x1 k0
theorem UB (R:Type):∀a∈aA (aQ Tryz.f25),gE tt (cz (xQ (R:=R) iq cV)) (CD (R:=R) dA) 0 a:=by
 refine eV 1 (by kernel_rfl) fun i hi => ?_
 match i,hi with
 | 0,_=>exact bT (by kernel_rfl) (S3 _ cQ)
 | n+1,hi=>omega
theorem Wl (R:Type):od Tryz.prog 25 (S2 (nI (R:=R))):=bS TT mixed (YN (R:=R)) rfl rfl rfl rfl (UB R) (lexer_Scan_ok iq cV dA)
abbrev gn (R:Type):Type:=Int→(List Token)→Int→((List Token)→Int→Option R)→Option R
abbrev tp:List dh := [.leaf (.ptr 0 0), .leaf (.int .i64)]
abbrev tq:List aY := [.cells [.sl .token, .int .i64]]
def zW (fn:gn R):oC R tp tq:=fun x y k=>fn x.2.1 y.1.1 y.1.2.1 (fun q0 q1=>k (.tuple []) [.cells [.sl .token q0 .no, .int .i64 q1]])
def ko (fn:gn R):=aG tp tq (zW fn)
section
def BA (x1:Int) (x2:List Token) (x3:Int) (k0:(List Token)→Int→Option R):Option R :=
 bif (x3==0)then (k0 x2 x1)else (k0 x2 x3)
theorem JJ:fC (R:=R) (tt.mode [.json]) [] AL false Tryz.f43 tp tq (zW BA):=fun x y k=>by kernel_rfl
end
def av:gn R:=fun x1 x2 x3 k0=>BA x1 x2 x3 k0
theorem lr (R:Type):od Tryz.prog 43 (ko (av (R:=R))):=bS (TT.mode [.json]) mixed .n rfl rfl rfl rfl dM (JJ)
abbrev jQ (R:Type):Type:=af→(List Token)→Int→(Bool→(List Token)→Int→Option R)→Option R
abbrev tu:List dh := [.leaf (.ptr 0 0), .leaf (.str)]
abbrev tz:List aY := [.cells [.sl .token, .int .i64]]
def zX (fn:jQ R):oC R tu tz:=fun x y k=>fn x.2.1 y.1.1 y.1.2.1 (fun q0 q1 q2=>k (.bool q0) [.cells [.sl .token q1 .no, .int .i64 q2]])
def tA (fn:jQ R):=aG tu tz (zX fn)
section
def BB (x1:af) (x2:List Token) (x3:Int) (k0:Bool→(List Token)→Int→Option R):Option R :=
 bB (decide ((0:Int)<x2.length)) (bif (x3 != 0)then (k0 false x2 x3)else (bif ((x2.getD 0 (Ty.br .token)).kind != 1)then (k0 false x2 x3)else (bif (!((x2.getD 0 (Ty.br .token)).text==x1))then (k0 false x2 x3)else (bB (decide ((1:Int)≤x2.length)) (k0 true (x2.drop 1) x3)))))
theorem JK:fC (R:=R) (tt.mode [.json]) [] AL false Tryz.f122 tu tz (zX BB):=fun x y k=>by kernel_rfl
end
def az:jQ R:=fun x1 x2 x3 k0=>BB x1 x2 x3 k0
theorem xa (R:Type):od Tryz.prog 122 (tA (az (R:=R))):=bS (TT.mode [.json]) mixed .n rfl rfl rfl rfl dM (JK)
abbrev jX (R:Type):Type:=(List af)→af→(Int→Option R)→Option R
abbrev oj:List dh := [.leaf (.sl .str), .leaf (.str)]
abbrev om:List aY := []
def vl (fn:jX R):oC R oj om:=fun x y k=>fn x.1 x.2.1 (fun q0=>k (.int .i64 q0) [])
def wc (fn:jX R):=aG oj om (vl fn)
abbrev lu (R:Type):Type:=Nat→(List af)→af→Int→Int→(Option R)→(Int→Option R)→Option R
def iR:Hint := { live := [0,1,7,8],own := [],rows := [],cells := [],drop := [],out := [4] }
abbrev fq:Type:=(List af)×af×Int×Int
def kK:fq→St:=fun d=>⟨.sl .str d.1 .no :: .str d.2.1::U 5 (.int .i64 d.2.2.1 :: .int .i64 d.2.2.2::U 10 ([])), []⟩
def lv (K:Ex→St→Option R):Option R:=K (.exit 0) ⟨U 19 ([]), []⟩
def lx (K:Ex→St→Option R) (q0:Int):Option R:=K (.ret) ⟨U 4 (.int .i64 q0::U 14 ([])), []⟩
abbrev gA:List dh := .leaf (.sl .str) :: .leaf (.str)::PU 5 (.leaf (.int .i64) :: .leaf (.int .i64)::PU 10 ([]))
abbrev gB:List aY := []
def sv (x:dh.bD gA) (y:aY.bD gB):Nat:=(List.length x.1+List.length x.2.1+Int.natAbs x.2.2.2.2.2.2.2.1+Int.natAbs ((t8 x).1)+64)
def DA (x:dh.bD gA) (y:aY.bD gB):fq:=(x.1,x.2.1,x.2.2.2.2.2.2.2.1,(t8 x).1)
def qZ (L:lu R):sI R gA gB:=fun x y K=>L (sv x y) x.1 x.2.1 x.2.2.2.2.2.2.2.1 ((t8 x).1) (lv K) (lx K)
section
variable (bq:lu R)
def iS (cb:(List af)→af→Int→Int→Option R) (x3:List af) (x4:af) (x5:Int) (x6:Int) (e0:Option R) (e1:Int→Option R):Option R :=
 bif (decide (x6<x5))then (bB (decide ((0:Int)≤x6)&&decide (x6<x3.length)) (bif (x4==(x3.getD x6.toNat (Ty.br .str)))then (e1 x6)else (cb x3 x4 x5 (IntKind.i64.wrap (x6+1)))))else (e0)
def sw (K:Ex→St→Option R) (rc:fq→Option R) (d:fq):Option R:=iS (fun z0 z1 z2 z3=>rc (z0,z1,z2,z3)) d.1 d.2.1 d.2.2.1 d.2.2.2 (lv K) (lx K)
def iI:Nat→Option (Hint×cF R):=fun i=>match i with
 | 2=>some (iR,(cq gA gB (qZ bq) gl))
 | _=>none
theorem A3 (K:Ex→St→Option R) (rc:St→Option R) (d:fq):roundOf tt (cz []) (iI bq) 0 ((aA (aQ Tryz.f142)).getD 0 .skip) iR (kK d) rc K=sw K (fun d=>rc (kK d)) d:=by kernel_rfl
def wg (x1:List af) (x2:af) (k0:Int→Option R):Option R :=
 bq (List.length x1+List.length x2+Int.natAbs (x1.length:Int)+Int.natAbs 0+64) x1 x2 (x1.length:Int) 0 (k0 (-1)) (fun y7=>k0 y7)
theorem FI:fC (R:=R) tt [] (iI bq) false Tryz.f142 oj om (vl (wg bq)):=fun x y k=>by kernel_rfl
end
def bq:lu R
 | 0,_,_,_,_,_,_=>none
 | n+1,eh,eB,fb,lZ,e0,e1=>iS (fun eh eB fb lZ=>bq n eh eB fb lZ e0 e1) eh eB fb lZ e0 e1
def sA (K:Ex→St→Option R) (n:Nat) (d:fq):Option R:=bq n d.1 d.2.1 d.2.2.1 d.2.2.2 (lv K) (lx K)
theorem CE (other:cF R) (ho:fZ tt (cz []) (iI (R:=R) bq) 0 ((aA (aQ Tryz.f142)).getD 0 .skip) iR other):fZ tt (cz []) (iI (R:=R) bq) 0 ((aA (aQ Tryz.f142)).getD 0 .skip) iR (cq gA gB (qZ (bq)) other) :=
 cx (A:=sA) ho (dD kK (sw) (sA) (fun _ _=>by kernel_rfl) (A3 bq) (fun _ _ _=>by kernel_rfl)) sv DA (fun _ _=>by kernel_rfl) (fun _ _ _=>by kernel_rfl)
def eC:jX R:=fun x1 x2 k0=>wg bq x1 x2 k0
theorem DB (R:Type):∀a∈aA (aQ Tryz.f142),gE tt (cz []) (iI (R:=R) bq) 0 a:=by
 refine eV 1 (by kernel_rfl) fun i hi => ?_
 match i,hi with
 | 0,_=>exact bT (by kernel_rfl) (CE _ cQ)
 | n+1,hi=>omega
theorem Ed (R:Type):od Tryz.prog 142 (wc (eC (R:=R))):=bS TT mixed .n rfl rfl rfl rfl (DB R) (FI bq)
abbrev iT (R:Type):Type:=(List af)→af→(Bool→Option R)→Option R
abbrev mj:List dh := [.leaf (.sl .str), .leaf (.str)]
abbrev ml:List aY := []
def sB (fn:iT R):oC R mj ml:=fun x y k=>fn x.1 x.2.1 (fun q0=>k (.bool q0) [])
def tB (fn:iT R):=aG mj ml (sB fn)
section
variable (eC:jX R)
def tC:List (sS R) := [(142,true,(wc eC aC))]
def tD (x1:List af) (x2:af) (k0:Bool→Option R):Option R :=
 eC x1 x2 (fun y3=>k0 (decide (y3≥(0:Int))))
theorem DC:fC (R:=R) tt (tC eC) AL false Tryz.f123 mj ml (sB (tD eC)):=fun x y k=>by kernel_rfl
end
theorem CF:dy (R:=R) Tryz.prog (tC (R:=R) eC) := .c (Ed R) <| .n
def cK:iT R:=fun x1 x2 k0=>tD eC x1 x2 k0
theorem BY (R:Type):od Tryz.prog 123 (tB (cK (R:=R))):=bS TT mixed (CF (R:=R)) rfl rfl rfl rfl dM (DC eC)
abbrev mJ (R:Type):Type:=(List af)→(List Token)→Int→(af→(List Token)→Int→Option R)→Option R
abbrev tE:List dh := [.leaf (.ptr 0 0), .leaf (.Ui .str 1)]
abbrev tF:List aY := [.cells [.sl .token, .int .i64], .tok]
def zY (fn:mJ R):oC R tE tF:=fun x y k=>fn x.2.1 y.1.1 y.1.2.1 (fun q0 q1 q2=>k (.str q0) [.cells [.sl .token q1 .no, .int .i64 q2], .tok])
def BC (fn:mJ R):=aG tE tF (zY fn)
section
variable (av:gn R) (az:jQ R) (cK:iT R)
def BD:List (sS R) := [(43,false,(ko av aC)),(122,false,(tA az aC)),(123,true,(tB cK aC))]
def BE (x1:List af) (x2:List Token) (x3:Int) (k0:af→(List Token)→Int→Option R):Option R :=
 bB (decide ((0:Int)<x2.length)) (bif ((x2.getD 0 (Ty.br .token)).kind != 2)then (av 40 x2 x3 (fun y4 y5=>k0 ((x2.getD 0 (Ty.br .token)).text) y4 y5))else (cK x1 ((x2.getD 0 (Ty.br .token)).text) (fun y6=>bif y6 then (av 42 x2 x3 (fun y7 y8=>k0 ((x2.getD 0 (Ty.br .token)).text) y7 y8))else (bB (decide ((1:Int)≤x2.length)) (az ([58]:af) (x2.drop 1) x3 (fun y9 o5 jf=>bif (!y9)then (av 40 o5 jf (fun l9 DN=>k0 ((x2.getD 0 (Ty.br .token)).text) l9 DN))else (k0 ((x2.getD 0 (Ty.br .token)).text) o5 jf)))))))
theorem JL:fC (R:=R) (tt.mode [.json]) (BD av az cK) AL false Tryz.f90 tE tF (zY (BE av az cK)):=fun x y k=>by kernel_rfl
end
theorem IB:dy (R:=R) Tryz.prog (BD (R:=R) av az cK) := .d (lr R) rfl <| .d (xa R) rfl <| .c (BY R) <| .n
def dB:mJ R:=fun x1 x2 x3 k0=>BE av az cK x1 x2 x3 k0
theorem HB (R:Type):od Tryz.prog 90 (BC (dB (R:=R))):=bS (TT.mode [.json]) mixed (IB (R:=R)) rfl rfl rfl rfl dM (JL av az cK)
end Go.Proofs.YtmlkkgfenfdndaaGreatDoor
set_option maxRecDepth 100000
namespace Go.Proofs.YtmlkkgfenfdndaaGreatDoor
open Go Go.bb Go.Lib
theorem YO:∀(l:af) (v u:Nat),NL l v=some u→u<(v+1)*16 ^ l.length
 | [],v,u,h=>by cases h; simp
 | b::t,v,u,h=>by
  simp only[NL]at h;cases hx:Rx b with
  | none=>rw[hx]at h; cases h
  | some d =>
   rw[hx]at h;have h1:=YO t _ _ h;have hd:=hexv_lt hx;have h2:(16*v+d+1)*16 ^ t.length≤((v+1)*16)*16 ^ t.length:=Nat.mul_le_mul_right _ (by omega);rw[List.length_cons,Nat.pow_succ];have h3:(v+1)*16*16 ^ t.length=(v+1)*(16 ^ t.length*16):=by rw[Nat.mul_assoc,Nat.mul_comm 16]
   omega
theorem hexN_all:∀(l:af) (v u:Nat),NL l v=some u→∀b∈l,(Rx b).isSome=true
 | [],v,u,h=>by simp
 | b::t,v,u,h=>by
  simp only[NL]at h;cases hx:Rx b with
  | none=>rw[hx]at h; cases h
  | some d =>
   rw[hx]at h;intro c hc;rcases List.mem_cons.1 hc with rfl|hc
   ·rw[hx]; rfl
   ·exact hexN_all t _ _ h c hc
theorem hexv_asc {b:UInt8} (h:(Rx b).isSome=true):b.toNat<128∧b.toNat≠43∧b.toNat≠45∧b.toNat≠95:=by
 unfold Rx at h;simp only at h
 revert h
 (repeat' split) <;> intro h <;> first|omega|cases h
theorem hasAny_none (cs:af):∀s:af,(∀b∈s,cs.contains b=false)→Yo s cs=false:=by
 have key:∀s:af,(∀b∈s,cs.contains b=false)→indexAny s cs = -1:=by
  intro s
  induction s with
  | nil=>intro _; rfl
  | cons b s ih =>
   intro h;unfold indexAny;rw[h b (by simp)];have:=ih fun x hx=>h x (by simp[hx])
   simp[this]
 intro s h;unfold Yo containsAny;rw[key s h];rfl
def Gb (s:af):Option (Nat×af):=if s.length<4 then none else match NL (s.take 4) 0 with|some v=>some (v,s.drop 4)|none=>none
theorem CG {s r:af} {v:Nat} (h:Gb s=some (v,r)):v<65536∧4≤s.length∧r=s.drop 4:=by
 unfold Gb at h;split at h
 ·cases h
 ·rename_i hl;split at h
  ·rename_i u hu;cases h;have:=YO _ _ _ hu;rw[List.length_take,Nat.min_eq_left (by omega)]at this;exact ⟨by omega,by omega,rfl⟩
  ·cases h
theorem Px {n:Nat} (h:n<1114112):IntKind.i32.wrap (n:Int)=(n:Int):=wrap32_id (by omega) (by omega)
theorem unit_ok {R:Type} (s:af) (hs:s.length≤9000000000000000000) (k:Int→af→Option R) :
  dH s k=match Gb s with|some (v,r)=>k (v:Int) r|none=>k (-1) s:=by
 show mH gh s k=_;unfold mH;by_cases hl:s.length<4
 ·rw[aj (show (s.length:Int)<4 by omega),cond_true];unfold Gb;rw[if_pos hl]
 ·rw[aE (show ¬(s.length:Int)<4 by omega),cond_false,ao (aj (by omega))];have h4:(s.drop 0).take (4 - 0)=s.take 4:=rfl;rw[h4,parse4 (by rw[List.length_take]; omega)];unfold Gb;rw[if_neg hl];cases hu:NL (s.take 4) 0 with
  | none=>rfl
  | some v =>
   have Dw:=hexN_all _ _ _ hu;have hasc:yk (s.take 4)=true:=List.all_eq_true.2 fun b hb=>aj (hexv_asc (Dw b hb)).1
   have hno:Yo (s.take 4) [43,45,95]=false:=hasAny_none _ _ fun b hb=>by
    obtain ⟨_,g1,g2,g3⟩:=hexv_asc (Dw b hb);have e:∀x:UInt8,b.toNat≠x.toNat→(b==x)=false:=fun x hx=>by
     rw[beq_eq_false_iff_ne]; rintro rfl; exact hx rfl
    simp only[List.contains_cons,List.contains_nil,e 43 g1,e 45 g2,e 95 g3];rfl
   have hv:=(CG (s:=s) (r:=s.drop 4) (v:=v) (by unfold Gb; rw[if_neg hl,hu])).1;have Vx:yk ([43,45,95]:af)=true:=by decide
   simp only;rw[ao (by rw[hasc,Vx,aj (show (s.take 4).length<4294967281 by rw[List.length_take]; omega)]; rfl),hno,cond_false,ao (by rw[aj (show (0:Int)≤(s.length:Int) by omega),aj (show (s.length:Int)≤s.length by omega)]; rfl),ao (aj (by omega))];rw[Px (by omega),Int.toNat_natCast,List.take_of_length_le (by rw[List.length_drop]; exact Nat.le_refl _)]
def OJ (s:af):Option (Nat×af) :=
 match Gb s with
 | none=>none
 | some (v,r) =>
  if v<55296∨57344≤v then some (v,r)else if 56320≤v then none
  else if ([92,117]:af).isPrefixOf r then
   match Gb (r.drop 2)with
   | none=>none
   | some (w,r2)=>if 56320≤w∧w<57344 then some (65536+(v - 55296)*1024+(w - 56320),r2)else none
  else none
theorem shl10 (n:Nat) (h:n<1024):IntKind.i32.wrap ((n:Int)*2 ^ (min 10 IntKind.i32.bits))=((n*1024:Nat):Int):=by
 have e:(n:Int)*2 ^ (min 10 IntKind.i32.bits)=((n*1024:Nat):Int):=by
  show (n:Int)*2 ^ 10=_;omega
 rw[e,Px (by omega)]
theorem long_ok {R:Type} (s:af) (hs:s.length≤9000000000000000000) (k:Int→af→Option R) :
  match OJ s with|some (c,r)=>dp s k=k (c:Int) r|none=>∃r,dp s k=k (-1) r:=by
 have e0:dp s k=mI aP dH s k:=rfl;rw[e0];unfold mI;rw[unit_ok s hs];unfold OJ;cases hu:Gb s with
 | none =>
  simp only;exact ⟨s,by rw[aj (show (-1:Int)<55296 by omega),cond_true]⟩
 | some p =>
  obtain ⟨v,r⟩:=p;obtain ⟨hv,hl,hr⟩:=CG hu;have hrl:r.length≤9000000000000000000:=by rw[hr,List.length_drop]; omega
  simp only;by_cases h1:v<55296
  ·rw[if_pos (.inl h1),aj (show (v:Int)<55296 by omega)];simp only[cond_true]
  rw[aE (show ¬(v:Int)<55296 by omega),cond_false];by_cases h2:57344≤v
  ·rw[if_pos (.inr h2),aj (show (v:Int)≥57344 by omega)];simp only[cond_true]
  rw[if_neg (by omega),aE (show ¬(v:Int)≥57344 by omega),cond_false];by_cases h3:56320≤v
  ·rw[if_pos h3];exact ⟨r,by rw[aj (show (v:Int)≥56320 by omega),cond_true]⟩
  rw[if_neg h3,aE (show ¬(v:Int)≥56320 by omega),cond_false,Xg _ _ (by simp) hrl];cases hp:([92,117]:af).isPrefixOf r with
  | false =>
   simp only[Bool.false_eq_true,if_false];exact ⟨r,rfl⟩
  | true =>
   simp only[if_true];have hrl2:(r.drop 2).length≤9000000000000000000:=by rw[List.length_drop]; omega
   have e2:r.drop ([92,117]:af).length=r.drop 2:=rfl;rw[Bool.not_true,cond_false,e2,unit_ok _ hrl2];cases hu2:Gb (r.drop 2)with
   | none =>
    simp only;exact ⟨r.drop 2,by rw[aj (show (-1:Int)<56320 by omega),cond_true]⟩
   | some q =>
    obtain ⟨w,r2⟩:=q;obtain ⟨hw,XH,hr2⟩:=CG hu2;simp only;by_cases h4:56320≤w∧w<57344
    ·rw[if_pos h4];simp only;rw[aE (show ¬(w:Int)<56320 by omega),cond_false,aE (show ¬(w:Int)≥57344 by omega),cond_false];have k1:IntKind.i32.wrap ((v:Int) - 55296)=((v - 55296:Nat):Int):=by
      have:(v:Int) - 55296=((v - 55296:Nat):Int):=by omega
      rw[this,Px (by omega)]
     rw[k1,shl10 _ (by omega)];have k2:IntKind.i32.wrap (65536+(((v - 55296)*1024:Nat):Int))=((65536+(v - 55296)*1024:Nat):Int):=by
      have:65536+(((v - 55296)*1024:Nat):Int)=((65536+(v - 55296)*1024:Nat):Int):=by omega
      rw[this,Px (by omega)]
     have k3:IntKind.i32.wrap (((65536+(v - 55296)*1024:Nat):Int)+(w:Int))=((65536+(v - 55296)*1024+w:Nat):Int):=by
      have:((65536+(v - 55296)*1024:Nat):Int)+(w:Int)=((65536+(v - 55296)*1024+w:Nat):Int):=by omega
      rw[this];simp only[IntKind.wrap,IntKind.bits,IntKind.signed];simp;omega
     have k4:IntKind.i32.wrap (((65536+(v - 55296)*1024+w:Nat):Int) - 56320)=((65536+(v - 55296)*1024+(w - 56320):Nat):Int):=by
      have:((65536+(v - 55296)*1024+w:Nat):Int) - 56320=((65536+(v - 55296)*1024+(w - 56320):Nat):Int):=by omega
      rw[this,Px (by omega)]
     rw[k2,k3,k4]
    ·rw[if_neg h4];refine ⟨r2,?_⟩;by_cases h5:w<56320
     ·rw[aj (show (w:Int)<56320 by omega),cond_true]
     ·rw[aE (show ¬(w:Int)<56320 by omega),cond_false,aj (show (w:Int)≥57344 by omega),cond_true]
def YP:af→Option (Nat×af)
 | []=>none
 | b::t =>
  if b.toNat=34∨b.toNat=92∨b.toNat=47 then some (b.toNat,t)else if b.toNat=98 then some (8,t)else if b.toNat=102 then some (12,t)else if b.toNat=110 then some (10,t)
  else if b.toNat=114 then some (13,t)else if b.toNat=116 then some (9,t)else if b.toNat=117 then OJ t else none
theorem esc_ok {R:Type} (s:af) (hs:s.length≤9000000000000000000) (k:Int→af→Option R) :
  match YP s with|some (c,r)=>bx s k=k (c:Int) r|none=>∃r,bx s k=k (-1) r:=by
 have e0:bx s k=kG dp s k:=rfl;rw[e0];unfold kG;cases s with
 | nil=>exact ⟨[],rfl⟩
 | cons b t =>
  have im:((b::t:af)==([]:af))=false:=rfl;simp only[List.length_cons]at hs;have ht:(((b::t:af).drop 1).take (((b::t:af).length:Int).toNat - 1))=t:=by
   rw[Int.toNat_natCast,List.drop_succ_cons,List.drop_zero,List.length_cons,Nat.add_sub_cancel,List.take_length]
  have hg:((b::t:af).getD 0 0).toNat=b.toNat:=rfl;rw[im,cond_false,ao (aj (show (0:Int)<((b::t:af).length:Int) by simp only[List.length_cons]; omega)),
   ao (by rw[aj (show (0:Int)≤((b::t:af).length:Int) by omega),aj (show ((b::t:af).length:Int)≤(b::t:af).length by omega)]; rfl),
   ao (aj (show (1:Int)≤((b::t:af).length:Int) by simp only[List.length_cons]; omega))]
  simp only[ht,hg];have hb:=UInt8.toNat_lt b;simp only[YP];generalize b.toNat=n at *;have q:∀m:Nat,((n:Int)==(m:Int))=decide (n=m):=fun m=>by
   by_cases h:n=m
   ·subst h; simp
   ·have:¬((n:Int)=(m:Int)):=by omega
    simp[h,this]
  have q34:((n:Int)==34)=decide (n=34):=q 34;have q92:((n:Int)==92)=decide (n=92):=q 92;have q47:((n:Int)==47)=decide (n=47):=q 47;have q98:((n:Int)==98)=decide (n=98):=q 98;have q102:((n:Int)==102)=decide (n=102):=q 102;have q110:((n:Int)==110)=decide (n=110):=q 110;have q114:((n:Int)==114)=decide (n=114):=q 114;have q116:((n:Int)==116)=decide (n=116):=q 116;have q117:((n:Int)==117)=decide (n=117):=q 117;simp only[q34,q92,q47,q98,q102,q110,q114,q116,q117,Px (show n<1114112 by omega)];by_cases GH:n=34
  ·subst GH; simp
  by_cases Rz:n=92
  ·subst Rz; simp
  by_cases h47:n=47
  ·subst h47; simp
  simp only[GH,Rz,h47,decide_false,cond_false,or_self,if_false];by_cases h98:n=98
  ·subst h98; simp
  by_cases h102:n=102
  ·subst h102; simp
  by_cases h110:n=110
  ·subst h110; simp
  by_cases h114:n=114
  ·subst h114; simp
  by_cases h116:n=116
  ·subst h116; simp
  by_cases h117:n=117
  ·subst h117;have:=long_ok (R:=R) t (by omega) k;simp only[decide_true,decide_false,cond_true,cond_false,if_true,show ¬((117:Nat)=98) by decide,show ¬((117:Nat)=102) by decide,show ¬((117:Nat)=110) by decide,show ¬((117:Nat)=114) by decide,show ¬((117:Nat)=116) by decide,if_false];exact this
  simp only[h98,h102,h110,h114,h116,h117,decide_false,cond_false,if_false];exact ⟨t,rfl⟩
def JM:af := [48,49,50,51,52,53,54,55,56,57,97,98,99,100,101,102]
def r9 (c:Nat):Nat:=if c=34∨c=92 then c else if c=8 then 98 else if c=12 then 102 else if c=10 then 110 else if c=13 then 114 else if c=9 then 116 else 0
def qc (c:Nat):af:=if r9 c≠0 then [92,UInt8.ofNat (r9 c)]else if c<32 then [92,117,48,48,JM.getD (c / 16) 0,JM.getD (c % 16) 0]else enc c
def S4 (rs:List Nat):af:=rs.flatMap qc
def qt (rs:List Nat):af:=34::(S4 rs ++ [34])
theorem shortC_lt (c:Nat):r9 c<256:=by unfold r9; (repeat' split) <;> omega
theorem short_ok {R:Type} (c:Nat) (k:Int→Option R):fM (c:Int) k=k (r9 c:Int):=by
 show Ey (c:Int) k=_;unfold Ey r9;have b:∀n:Nat,((c:Int)==(n:Int))=decide (c=n):=fun n=>by
  by_cases h:c=n
  ·subst h; simp
  ·have:¬((c:Int)=(n:Int)):=by omega
   simp[h,this]
 have b34:((c:Int)==34)=decide (c=34):=b 34;have b92:((c:Int)==92)=decide (c=92):=b 92;have b8:((c:Int)==8)=decide (c=8):=b 8;have b12:((c:Int)==12)=decide (c=12):=b 12;have b10:((c:Int)==10)=decide (c=10):=b 10;have b13:((c:Int)==13)=decide (c=13):=b 13;have b9:((c:Int)==9)=decide (c=9):=b 9;rw[b34,b92,b8,b12,b10,b13,b9];have w:IntKind.u8.wrap (c:Int)=((c % 256:Nat):Int):=wrap8 c;by_cases GH:c=34
 ·subst GH; rfl
 by_cases Rz:c=92
 ·subst Rz; rfl
 simp only[GH,Rz,decide_false,cond_false,or_self,if_false];by_cases h8:c=8
 ·subst h8; rfl
 by_cases h12:c=12
 ·subst h12; rfl
 by_cases h10:c=10
 ·subst h10; rfl
 by_cases h13:c=13
 ·subst h13; rfl
 by_cases h9:c=9
 ·subst h9; rfl
 simp[h8,h12,h10,h13,h9]
theorem runeAt_drop (s:af) (pos:Nat):mS s pos=decodeL (s.drop pos):=by
 unfold mS;exact (decodeL_drop ⟨s.toArray⟩ pos).symm
theorem enc_head (rs:List Nat) (c:Nat) (t:List Nat):dV (rs++c::t)=dV rs++(enc c++dV t):=by simp[dV]
theorem hexdig:∀c:Fin 32,(Int.fdiv (c.val:Int) (2 ^ (min 4 IntKind.i32.bits)))=((c.val / 16:Nat):Int)∧IntKind.i32.wrap ((BitVec.ofInt IntKind.i32.bits (c.val:Int) &&& BitVec.ofInt IntKind.i32.bits 15).toNat:Int)=((c.val % 16:Nat):Int):=by decide +kernel
theorem qc_len {c:Nat} (hv:vr c):(qc c).length≤6:=by
 unfold qc;split
 ·simp
 ·split
  ·simp
  ·have:=xG hv; omega
theorem quote_round {R:Type} {x:af} {pos c:Nat} (hp:pos<x.length) {t:af} (hd:x.drop pos=enc c++t) (hv:vr c) (o:af) (ho:o.length≤90000000000) (cb:List Int→af→Nat→Option R) (e0:List Int→Option R) :
  k9 ad fM ae aq cb (zs o) x pos e0=cb (zs (o++qc c)) x (pos+(enc c).length):=by
 unfold k9;have hr:mS x pos=(c,(enc c).length):=by rw[runeAt_drop,hd,Sx hv]
 rw[hr,aj hp,cond_true];simp only;rw[short_ok];have hlim:∀z:af,z.length≤10→SX (o++z):=fun z hz=>by unfold SX; rw[List.length_append]; omega
 have hlim0:SX o:=by unfold SX; omega
 by_cases hs:r9 c≠0
 ·have e:((r9 c:Int) != 0)=true:=by
   exact bne_iff_ne.2 (by omega)
  rw[e,cond_true];have Rz:(92:Int)=((92:UInt8).toNat:Int):=rfl;rw[Rz,wb _ o hlim0];have h2:(r9 c:Int)=((UInt8.ofNat (r9 c)).toNat:Int):=by rw[hP _ (shortC_lt c)]
  rw[h2,wb _ _ (hlim [92] (by simp))];have:qc c = [92,UInt8.ofNat (r9 c)]:=by unfold qc; rw[if_pos hs]
  rw[this,List.append_assoc];rfl
 ·have hs0:r9 c=0:=by omega
  have e:((r9 c:Int) != 0)=false:=by rw[hs0]; rfl
  rw[e,cond_false];by_cases h32:c<32
  ·rw[aj (show (c:Int)<32 by omega),cond_true,ws _ o (by simp) hlim0];obtain ⟨k1,k2⟩:=hexdig ⟨c,h32⟩;simp only at k1 k2;rw[k1,k2,ao (by rw[aj (by omega),aj (by omega)]; rfl)];rw[Int.toNat_natCast,Int.toNat_natCast,wb _ _ (hlim [92,117,48,48] (by simp)),ao (by rw[aj (by omega),aj (by omega)]; rfl)];rw[List.append_assoc o,wb _ _ (hlim _ (by simp))];have:qc c = [92,117,48,48,JM.getD (c / 16) 0,JM.getD (c % 16) 0]:=by unfold qc; rw[if_neg hs,if_pos h32]
   rw[this,List.append_assoc o];rfl
  ·rw[aE (show ¬(c:Int)<32 by omega),cond_false];obtain ⟨n,hn⟩:=wr hv o hlim0 (fun xy yI=>cb yI x (pos+(enc c).length));rw[hn];have:qc c=enc c:=by unfold qc; rw[if_neg hs,if_neg h32]
   rw[this]
theorem quote_loop {R:Type} (rs:List Nat):∀(n:Nat) (done:List Nat) (o:af),rs.length<n→(∀c∈rs,vr c)→(∀c∈done,vr c)→o.length+6*rs.length≤80000000000→∀e0:List Int→Option R,
  cR n (zs o) (dV (done++rs)) (dV done).length e0=e0 (zs (o++S4 rs)):=by
 induction rs with
 | nil =>
  intro n done o hn _ _ _ e0;obtain ⟨m,rfl⟩:∃m,n=m+1:=⟨n - 1,by simp at hn; omega⟩;show k9 ad fM ae aq _ (zs o) (dV (done ++ [])) (dV done).length e0=_;unfold k9;rw[List.append_nil,aE (Nat.lt_irrefl _),cond_false];simp[S4]
 | cons c rs ih =>
  intro n done o hn hr hd hl e0;obtain ⟨m,rfl⟩:∃m,n=m+1:=⟨n - 1,by simp at hn; omega⟩;have hv:=hr c (by simp);have he:=xG hv;have hq:=qc_len hv;simp only[List.length_cons]at hn hl;show k9 ad fM ae aq (fun eh eB fb=>cR m eh eB fb e0) (zs o) (dV (done++c::rs)) (dV done).length e0=_;rw[quote_round (c:=c) (t:=dV rs) (by rw[enc_head,List.length_append,List.length_append]; omega) (by rw[enc_head,List.drop_left]) hv o (by omega)];have e1:done++c::rs=(done ++ [c])++rs:=by simp
  have e2:(dV done).length+(enc c).length=(dV (done ++ [c])).length:=by rw[Up,List.length_append]
  rw[e1,e2,ih m (done ++ [c]) (o++qc c) (by omega) (fun x hx=>hr x (by simp[hx])) (fun x hx=>by
   rcases List.mem_append.1 hx with h|h
   ·exact hd x h
   ·simp at h; subst h; exact hv) (by rw[List.length_append]; omega)]
  rw[List.append_assoc];rfl
theorem HC:∀(rs:List Nat),(∀c∈rs,vr c)→rs.length≤(dV rs).length∧(dV rs).length≤4*rs.length
 | [],_=>by simp[dV]
 | c::rs,h=>by
  have h1:=xG (h c (by simp));have h2:=HC rs (fun x hx=>h x (by simp[hx]));have:dV (c::rs)=enc c++dV rs:=by simp[dV]
  rw[this,List.length_append,List.length_cons];omega
theorem UC:∀(rs:List Nat),(∀c∈rs,vr c)→(S4 rs).length≤6*rs.length
 | [],_=>by simp[S4]
 | c::rs,h=>by
  have h1:=qc_len (h c (by simp));have h2:=UC rs (fun x hx=>h x (by simp[hx]));have:S4 (c::rs)=qc c++S4 rs:=by simp[S4]
  rw[this,List.length_append,List.length_cons];omega
theorem quote_ok {R:Type} (rs:List Nat) (hr:∀c∈rs,vr c) (hl:rs.length≤10000000000) (k:af→Bool→Option R):cU (dV rs) k=k (qt rs) true:=by
 have hc:=HC rs hr;have hq:=UC rs hr;have hw:fE (dV rs)=true:=Bv.2 ⟨rs,hr,rfl⟩;show vI bM ak ad cR (dV rs) k=_;unfold vI;have q:∀(x:af) (f:Bool→Option R),bM x f=f (fE x):=fun _ _=>rfl
 have q2:∀(x:Int) (f:List Int→Option R),ak x f=f [x]:=fun _ _=>rfl
 rw[q,hw,Bool.not_true,cond_false,q2];have e34:([34]:List Int)=zs [34]:=rfl;rw[e34];have:=quote_loop (R:=R) rs (List.length (zs [34])+List.length (dV rs)+64) [] [34] (by omega) hr (by simp) (by simp; omega);rw[List.nil_append]at this;have e0:(dV []).length=0:=rfl;rw[e0]at this;rw[this];have GH:(34:Int)=((34:UInt8).toNat:Int):=rfl;rw[GH,wb _ _ (by unfold SX; rw[List.length_append]; simp; omega),v7];rfl
theorem quote_bad {R:Type} (s:af) (h:fE s=false) (k:af→Bool→Option R):cU s k=k [] false:=by
 show vI bM ak ad cR s k=_;unfold vI;have q:∀(x:af) (f:Bool→Option R),bM x f=f (fE x):=fun _ _=>rfl
 rw[q,h];rfl
def Qy (s:af):Option (Nat×af):=if ([92]:af).isPrefixOf s then YP (s.drop 1)else yX s
def uq:Nat→af→af→Option (af×af)
 | 0,_,_=>none
 | n+1,s,o=>if ([34]:af).isPrefixOf s then some (o,s.drop 1)else match Qy s with|none=>none|some (c,r)=>uq n r (o++enc c)
theorem longP_ok {s r:af} {c:Nat} (h:OJ s=some (c,r)):vr c∧r.length+4≤s.length:=by
 unfold OJ at h;split at h
 ·cases h
 ·rename_i v r1 hu;obtain ⟨hv,hl,hr⟩:=CG hu;split at h
  ·cases h;refine ⟨by unfold vr; omega,?_⟩;rw[hr,List.length_drop]; omega
  ·split at h
   ·cases h
   ·split at h
    ·split at h
     ·cases h
     ·rename_i w r2 hu2;obtain ⟨hw,XH,hr2⟩:=CG hu2;split at h
      ·simp only[Option.some.injEq,Prod.mk.injEq]at h;obtain ⟨hc,rfl⟩:=h;refine ⟨by unfold vr; omega,?_⟩;rw[hr2,hr];simp only[List.length_drop];rw[hr]at XH;simp only[List.length_drop]at XH;omega
      ·cases h
    ·cases h
theorem escP_ok {s r:af} {c:Nat} (h:YP s=some (c,r)):vr c∧r.length<s.length:=by
 cases s with
 | nil=>cases h
 | cons b t =>
  simp only[YP]at h;have hb:=UInt8.toNat_lt b;split at h
  ·cases h; exact ⟨by unfold vr; omega,by simp⟩
  split at h
  ·cases h; exact ⟨by unfold vr; omega,by simp⟩
  split at h
  ·cases h; exact ⟨by unfold vr; omega,by simp⟩
  split at h
  ·cases h; exact ⟨by unfold vr; omega,by simp⟩
  split at h
  ·cases h; exact ⟨by unfold vr; omega,by simp⟩
  split at h
  ·cases h; exact ⟨by unfold vr; omega,by simp⟩
  split at h
  ·obtain ⟨h1,h2⟩:=longP_ok h;exact ⟨h1,by simp only[List.length_cons]; omega⟩
  ·cases h
theorem UD {s r:af} {c:Nat} (h:yX s=some (c,r)):vr c∧r.length<s.length:=by
 unfold yX at h;split at h
 ·cases h
 ·rename_i im;split at h
  ·cases h
  ·split at h
   ·cases h
   ·cases h;have h1:=decodeL_width s;have h2:0<s.length:=List.length_pos_iff.2 im;exact ⟨dec_vr s,by rw[List.length_drop]; omega⟩
theorem YQ {s r:af} {c:Nat} (h:Qy s=some (c,r)):vr c∧r.length<s.length:=by
 unfold Qy at h;split at h
 ·obtain ⟨h1,h2⟩:=escP_ok h;exact ⟨h1,by rw[List.length_drop]at h2; omega⟩
 ·exact UD h
theorem uq_fuel:∀(n m:Nat) (s o:af),s.length<n→s.length<m→uq n s o=uq m s o
 | 0,_,_,_,h,_=>by omega
 | _+1,0,_,_,_,h=>by omega
 | n+1,m+1,s,o,hn,hm=>by
  unfold uq;split
  ·rfl
  ·cases hs:Qy s with
   | none=>rfl
   | some p =>
    obtain ⟨c,r⟩:=p;obtain ⟨_,h2⟩:=YQ hs;exact uq_fuel n m r _ (by omega) (by omega)
theorem unq_loop {R:Type} (x:af) (e0:af→af→List Int→Option R) (e1:af→af→Int→Bool→af→List Int→Option R):∀(n:Nat) (s o:af),s.length<n→o.length+4*s.length≤90000000000 →
  (match uq n s o with
   | some (o',r)=>bC n x s (zs o) e0 e1=e0 x r (zs o')
   | none=>∃a b,bC n x s (zs o) e0 e1=e1 x [] 0 false a b):=by
 intro n
 induction n with
 | zero=>intro s o h; omega
 | succ n ih =>
  intro s o h hb;have hL:bC (n+1) x s (zs o) e0 e1=sP aq aP bQ bx (fun eh eB fb=>bC n eh eB fb e0 e1) x s (zs o) e0 e1:=rfl;rw[hL];unfold sP;rw[Xg _ _ (by simp) (by omega)];simp only[uq];have hlim:SX o:=by unfold SX; omega
  by_cases GH:([34]:af).isPrefixOf s=true
  ·rw[if_pos GH,if_pos GH];rfl
  ·rw[if_neg GH,if_neg GH,Bool.not_false,cond_true,Xg _ _ (by simp) (by omega)];have fin:∀(c:Nat) (r:af),vr c→r.length<s.length →
     (match uq n r (o++enc c)with
      | some (o',r')=>bC n x r (zs (o++enc c)) e0 e1=e0 x r' (zs o')
      | none=>∃a b,bC n x r (zs (o++enc c)) e0 e1=e1 x [] 0 false a b):=fun c r hv hr=>by
    have:=xG hv;exact ih r (o++enc c) (by omega) (by rw[List.length_append]; omega)
   unfold Qy;by_cases Rz:([92]:af).isPrefixOf s=true
   ·rw[if_pos Rz,if_pos Rz];have e1':s.drop ([92]:af).length=s.drop 1:=rfl;rw[e1',cond_true];have hk:=esc_ok (R:=R) (s.drop 1) (by rw[List.length_drop]; omega) (fun jf l9=>bif (decide (jf<(0:Int)))then (e1 x ([]:af) 0 false l9 (zs o))else (aq jf (zs o) (fun DN xy=>bC n x l9 xy e0 e1)));cases he:YP (s.drop 1)with
    | none =>
     rw[he]at hk;obtain ⟨r,hk⟩:=hk;exact ⟨r,zs o,hk.trans (by rw[aj (show (-1:Int)<0 by omega),cond_true])⟩
    | some p =>
     obtain ⟨c,r⟩:=p;rw[he]at hk;obtain ⟨hv,hr⟩:=escP_ok he;rw[List.length_drop]at hr;simp only at hk ⊢;rw[hk,aE (show ¬(c:Int)<0 by omega),cond_false];obtain ⟨q,hq⟩:=wr hv o hlim (fun DN xy=>bC n x r xy e0 e1);rw[hq];exact fin c r hv (by omega)
   ·rw[if_neg Rz,if_neg Rz,cond_false];have hk:=plain_ok (R:=R) s (by omega) (fun yI Fp=>bif (decide (yI<(0:Int)))then (e1 x ([]:af) 0 false Fp (zs o))else (aq yI (zs o) (fun KD NX=>bC n x Fp NX e0 e1)));cases he:yX s with
    | none =>
     rw[he]at hk;simp only at hk ⊢;exact ⟨s,zs o,hk.trans (by rw[aj (show (-1:Int)<0 by omega),cond_true])⟩
    | some p =>
     obtain ⟨c,r⟩:=p;rw[he]at hk;obtain ⟨hv,hr⟩:=UD he;simp only at hk ⊢;rw[hk,aE (show ¬(c:Int)<0 by omega),cond_false];obtain ⟨q,hq⟩:=wr hv o hlim (fun KD NX=>bC n x r NX e0 e1);rw[hq];exact fin c r hv (by omega)
def uqS (s:af):Option (af×af):=if ([34]:af).isPrefixOf s then uq (s.length+1) (s.drop 1) []else none
theorem unquote_ok {R:Type} (s:af) (hs:s.length≤20000000000) (k:af→Int→Bool→Option R) :
  gm s k=match uqS s with|some (o,r)=>k o (IntKind.i64.wrap ((s.length:Int) - (r.length:Int))) true|none=>k [] 0 false:=by
 have e:gm s k=Ax aP bC s k:=rfl;rw[e];unfold Ax uqS;rw[Xg _ _ (by simp) (by omega)];by_cases GH:([34]:af).isPrefixOf s=true
 ·rw[if_pos GH,if_pos GH,Bool.not_true,cond_false];have e1:s.drop ([34]:af).length=s.drop 1:=rfl;rw[e1];have hd:(s.drop 1).length≤s.length:=by rw[List.length_drop]; omega
  have key:=unq_loop (R:=R) s (fun Cw Qs D7=>k (wN D7) (IntKind.i64.wrap ((Cw.length:Int) - (Qs.length:Int))) true) (fun y22 y23 y24 Kg SQ BQ=>k y23 y24 Kg) (List.length s+List.length (s.drop 1)+List.length ([]:List Int)+64) (s.drop 1) [] (by omega) (by simp only[List.length_nil]; omega);rw[uq_fuel _ (s.length+1) (s.drop 1) [] (by omega) (by omega)]at key;cases hu:uq (s.length+1) (s.drop 1) []with
  | none =>
   rw[hu]at key;obtain ⟨a,b,key⟩:=key;exact key
  | some p =>
   obtain ⟨o,r⟩:=p;rw[hu]at key;simp only at key ⊢;refine Eq.trans key ?_;rw[v7]
 ·rw[if_neg GH,if_neg GH];rfl
theorem KO (a b:UInt8) (t:af):([a]:af).isPrefixOf (b::t)=(a==b):=by
 simp[List.isPrefixOf]
theorem hex_back:∀c:Fin 32,NL [48,48,JM.getD (c.val / 16) 0,JM.getD (c.val % 16) 0] 0=some c.val:=by decide +kernel
theorem u8_ne {b:UInt8} {n:Nat} (hn:n<256) (h:b.toNat≠n):((UInt8.ofNat n)==b)=false:=by
 rw[beq_eq_false_iff_ne]
 rintro rfl
 rw[hP n hn]at h;exact h rfl
theorem enc_first {c:Nat} (hv:vr c) (h:32≤c) (GH:c≠34) (Rz:c≠92):∃b t,enc c=b::t∧b.toNat≠34∧b.toNat≠92:=by
 have jJ:=Yq hv;rcases G9 hv with ⟨h1,e⟩|⟨h0,h1,e⟩|⟨h0,h1,e⟩|⟨h0,e⟩
 ·exact ⟨_,_,e,by rw[hP _ (by omega)]; exact GH,by rw[hP _ (by omega)]; exact Rz⟩
 ·exact ⟨_,_,e,by rw[hP _ (by omega)]; omega,by rw[hP _ (by omega)]; omega⟩
 ·exact ⟨_,_,e,by rw[hP _ (by omega)]; omega,by rw[hP _ (by omega)]; omega⟩
 ·exact ⟨_,_,e,by rw[hP _ (by omega)]; omega,by rw[hP _ (by omega)]; omega⟩
theorem shortC_cases (c:Nat):(r9 c=0∧c≠34∧c≠92)∨c=34∨c=92∨c=8∨c=12∨c=10∨c=13∨c=9:=by
 unfold r9;by_cases h1:c=34 <;> by_cases h2:c=92 <;> by_cases h3:c=8 <;> by_cases h4:c=12 <;> by_cases h5:c=10 <;> by_cases h6:c=13 <;> by_cases h7:c=9 <;> simp[h1,h2,h3,h4,h5,h6,h7]
theorem qc_hex {c:Nat} (h0:r9 c=0) (h:c<32):qc c = [92,117,48,48,JM.getD (c / 16) 0,JM.getD (c % 16) 0]:=by unfold qc; rw[if_neg (by omega),if_pos h]
theorem qc_enc {c:Nat} (h0:r9 c=0) (h:¬c<32):qc c=enc c:=by unfold qc; rw[if_neg (by omega),if_neg h]
theorem step_qc {c:Nat} (hv:vr c) (t:af):([34]:af).isPrefixOf (qc c++t)=false∧Qy (qc c++t)=some (c,t):=by
 rcases shortC_cases c with ⟨h0,GH,Rz⟩|rfl|rfl|rfl|rfl|rfl|rfl|rfl
 ·by_cases h32:c<32
  ·rw[qc_hex h0 h32];refine ⟨rfl,?_⟩;have hb:=hex_back ⟨c,h32⟩;simp only at hb;show OJ (48::48::JM.getD (c / 16) 0::JM.getD (c % 16) 0::t)=some (c,t);have hu:Gb (48::48::JM.getD (c / 16) 0::JM.getD (c % 16) 0::t)=some (c,t):=by
    unfold Gb;rw[if_neg (by simp only[List.length_cons]; omega)];have e:List.take 4 (48::48::JM.getD (c / 16) 0::JM.getD (c % 16) 0::t) = [48,48,JM.getD (c / 16) 0,JM.getD (c % 16) 0]:=rfl;rw[e,hb];rfl
   unfold OJ;rw[hu];simp only;rw[if_pos (.inl (by omega))]
  ·rw[qc_enc h0 h32];obtain ⟨b,u,e,g1,g2⟩:=enc_first hv (by omega) GH Rz;have e2:enc c++t=b::(u++t):=by rw[e]; rfl
   refine ⟨?_,?_⟩
   ·rw[e2,KO];exact u8_ne (n:=34) (by omega) g1
   ·unfold Qy;have:([92]:af).isPrefixOf (enc c++t)=false:=by
     rw[e2,KO];exact u8_ne (n:=92) (by omega) g2
    rw[this];simp only[Bool.false_eq_true,if_false];unfold yX;rw[if_neg (enc_ne hv t),Sx hv t];simp only;have hg:=good_enc hv t;unfold Rn at hg;rw[Sx hv t]at hg;simp only at hg;rw[if_neg hg,if_neg h32,List.drop_left]
 ·exact ⟨rfl,rfl⟩
 ·exact ⟨rfl,rfl⟩
 ·exact ⟨rfl,rfl⟩
 ·exact ⟨rfl,rfl⟩
 ·exact ⟨rfl,rfl⟩
 ·exact ⟨rfl,rfl⟩
 ·exact ⟨rfl,rfl⟩
theorem uq_qc:∀(rs:List Nat),(∀c∈rs,vr c)→∀(n:Nat) (o more:af),rs.length<n→uq n (S4 rs++34::more) o=some (o++dV rs,more)
 | [],_,n,o,more,hn=>by
  obtain ⟨m,rfl⟩:∃m,n=m+1:=⟨n - 1,by simp at hn; omega⟩;have:S4 []++34::more=34::more:=rfl;rw[this];simp[uq,List.isPrefixOf,dV]
 | c::rs,hr,n,o,more,hn=>by
  obtain ⟨m,rfl⟩:∃m,n=m+1:=⟨n - 1,by simp at hn; omega⟩;have hv:=hr c (by simp);have e:S4 (c::rs)++34::more=qc c++(S4 rs++34::more):=by simp[S4]
  obtain ⟨h1,h2⟩:=step_qc hv (S4 rs++34::more);rw[e];simp only[uq,h1,h2,Bool.false_eq_true,if_false];rw[uq_qc rs (fun x hx=>hr x (by simp[hx])) m (o++enc c) more (by simp at hn; omega)];simp[dV]
theorem qc_pos {c:Nat} (hv:vr c):1≤(qc c).length:=by
 unfold qc;split
 ·simp
 ·split
  ·simp
  ·exact (xG hv).1
theorem qcL_pos:∀(rs:List Nat),(∀c∈rs,vr c)→rs.length≤(S4 rs).length
 | [],_=>by simp[S4]
 | c::rs,h=>by
  have h1:=qc_pos (h c (by simp));have h2:=qcL_pos rs (fun x hx=>h x (by simp[hx]));have:S4 (c::rs)=qc c++S4 rs:=by simp[S4]
  rw[this,List.length_append,List.length_cons];omega
theorem uqS_qt (rs:List Nat) (hr:∀c∈rs,vr c) (more:af):uqS (qt rs++more)=some (dV rs,more):=by
 have e:qt rs++more=34::(S4 rs++34::more):=by unfold qt; simp
 have hq:=qcL_pos rs hr;rw[e];unfold uqS;rw[KO];simp only[BEq.rfl,if_true,List.drop_succ_cons,List.drop_zero];have:=uq_qc rs hr ((34::(S4 rs++34::more)).length+1) [] more (by simp only[List.length_cons,List.length_append]; omega);rw[this];rfl
theorem whole_eq {R:Type} (x:af) (f:Bool→Option R):bM x f=f (fE x):=rfl
theorem quote_any {R:Type} (s:af) (hl:s.length≤10000000000):(∃rs:List Nat,(∀c∈rs,vr c)∧rs.length≤s.length∧s=dV rs∧fE s=true∧∀k:af→Bool→Option R,cU s k=k (qt rs) true) ∨
  (fE s=false∧∀k:af→Bool→Option R,cU s k=k [] false):=by
 cases h:fE s with
 | true =>
  obtain ⟨rs,hr,rfl⟩:=Bv.1 h;have:=HC rs hr;exact .inl ⟨rs,hr,this.1,rfl,rfl,fun k=>quote_ok rs hr (by omega) k⟩
 | false=>exact .inr ⟨rfl,fun k=>quote_bad s h k⟩
theorem shr64 (c n:Nat) (h:n≤64):Int.fdiv (c:Int) (2 ^ (min n IntKind.i64.bits))=((c / 2 ^ n:Nat):Int):=by
 have e:min n IntKind.i64.bits=n:=Nat.min_eq_left h;rw[e,Int.fdiv_eq_ediv_of_nonneg _ (by exact Int.le_of_lt (Int.pow_pos (by omega)))];rw[Int.natCast_ediv];congr 1
end Go.Proofs.YtmlkkgfenfdndaaGreatDoor
set_option maxRecDepth 100000
namespace Go.Proofs.YtmlkkgfenfdndaaGreatDoor
open Go Go.bb
variable {R:Type}
abbrev gP (R:Type):Type:=Raw→Int→(Json→Option R)→Option R
abbrev rh:List dh := [.agg [.int .i64, .int .i64, .int .i64, .sl (.int .i64), .sl .raw], .leaf (.int .i64)]
abbrev rj:List aY := []
def jY (fn:gP R):oC R rh rj:=fun x y k=>fn (⟨x.1.1,x.1.2.1,x.1.2.2.1,x.1.2.2.2.1,x.1.2.2.2.2.1⟩:Raw) x.2.1 (fun q0=>k (.agg [.int .i64 q0.kind, .int .i64 q0.num.au, .int .i64 q0.num.exp, .str q0.text, .sl .str q0.names .no, .sl .json q0.items .no]) [])
def VM (fn:gP R):=aG rh rj (jY fn)
abbrev CH (R:Type):Type:=Nat→Int→Int→Int→af→Bool→Int→Raw→Int→Int→Int→af→Int→Int→Int→af→(List af)→(List Json)→Raw→(Int→Int→Int→af→Bool→Raw→Int→Int→Int→af→Int→Int→Int→af→(List af)→(List Json)→Raw→Option R)→Option R
abbrev CI (R:Type):Type:=Nat→Int→Int→Int→Raw→Int→Int→Int→af→Int→Int→Int→af→(List af)→(List Json)→(Int→Int→Int→af→Int→Int→Int→af→(List af)→(List Json)→Option R)→Option R
def xR:Hint := { live := [1,2,4,5,6,7,8,9,10,11],own := [],rows := [],cells := [],drop := [],out := [1,2,4,5,6,7,8,9,10] }
abbrev oS:Type:=Int×Int×Int×af×Bool×Int×Raw×Int×Int×Int×af×Int×Int×Int×af×(List af)×(List Json)×Raw
def A4:oS→St:=fun d=>⟨.undef :: .int .i64 d.1 :: .ptr 0 0 :: .undef :: .ptr 1 0 :: .int .i64 d.2.1 :: .ptr 2 0 :: .int .i64 d.2.2.1 :: .ptr 3 0 :: .str d.2.2.2.1 :: .bool d.2.2.2.2.1 :: .int .i64 d.2.2.2.2.2.1::U 93 ([]), [.cells [.int .i64 d.2.2.2.2.2.2.1.kind, .int .i64 d.2.2.2.2.2.2.1.au, .int .i64 d.2.2.2.2.2.2.1.exp, .sl (.int .i64) d.2.2.2.2.2.2.1.text .no, .sl .raw d.2.2.2.2.2.2.1.items .no], .cells [.int .i64 d.2.2.2.2.2.2.2.1, .int .i64 d.2.2.2.2.2.2.2.2.1, .int .i64 d.2.2.2.2.2.2.2.2.2.1, .str d.2.2.2.2.2.2.2.2.2.2.1, .cG, .cG], .cells [.int .i64 d.2.2.2.2.2.2.2.2.2.2.2.1, .int .i64 d.2.2.2.2.2.2.2.2.2.2.2.2.1, .int .i64 d.2.2.2.2.2.2.2.2.2.2.2.2.2.1, .str d.2.2.2.2.2.2.2.2.2.2.2.2.2.2.1, .sl .str d.2.2.2.2.2.2.2.2.2.2.2.2.2.2.2.1 (.own 4), .sl .json d.2.2.2.2.2.2.2.2.2.2.2.2.2.2.2.2.1 (.own 5)], .cells [.int .i64 d.2.2.2.2.2.2.2.2.2.2.2.2.2.2.2.2.2.kind, .int .i64 d.2.2.2.2.2.2.2.2.2.2.2.2.2.2.2.2.2.au, .int .i64 d.2.2.2.2.2.2.2.2.2.2.2.2.2.2.2.2.2.exp, .sl (.int .i64) d.2.2.2.2.2.2.2.2.2.2.2.2.2.2.2.2.2.text .no, .sl .raw d.2.2.2.2.2.2.2.2.2.2.2.2.2.2.2.2.2.items .no], .tok, .tok]⟩
def CJ (K:Ex→St→Option R) (q0:Int) (q1:Int) (q2:Int) (q3:af) (q4:Bool) (q5:Raw) (q6:Int) (q7:Int) (q8:Int) (q9:af) (q10:Int) (q11:Int) (q12:Int) (q13:af) (q14:List af) (q15:List Json) (q16:Raw):Option R:=K (.exit 3) ⟨.undef :: .int .i64 q0 :: .ptr 0 0 :: .undef :: .ptr 1 0 :: .int .i64 q1 :: .ptr 2 0 :: .int .i64 q2 :: .ptr 3 0 :: .str q3 :: .bool q4::U 94 ([]), [.cells [.int .i64 q5.kind, .int .i64 q5.au, .int .i64 q5.exp, .sl (.int .i64) q5.text .no, .sl .raw q5.items .no], .cells [.int .i64 q6, .int .i64 q7, .int .i64 q8, .str q9, .cG, .cG], .cells [.int .i64 q10, .int .i64 q11, .int .i64 q12, .str q13, .sl .str q14 (.own 4), .sl .json q15 (.own 5)], .cells [.int .i64 q16.kind, .int .i64 q16.au, .int .i64 q16.exp, .sl (.int .i64) q16.text .no, .sl .raw q16.items .no], .tok, .tok]⟩
abbrev tG:List dh := .leaf (.undef) :: .leaf (.int .i64) :: .leaf (.ptr 0 0) :: .leaf (.undef) :: .leaf (.ptr 1 0) :: .leaf (.int .i64) :: .leaf (.ptr 2 0) :: .leaf (.int .i64) :: .leaf (.ptr 3 0) :: .leaf (.str) :: .leaf (.bool) :: .leaf (.int .i64)::PU 93 ([])
abbrev tH:List aY := [.cells [.int .i64, .int .i64, .int .i64, .sl (.int .i64), .sl .raw], .cells [.int .i64, .int .i64, .int .i64, .str, .cG, .cG], .cells [.int .i64, .int .i64, .int .i64, .str, .Ui .str 4, .Ui .json 5], .cells [.int .i64, .int .i64, .int .i64, .sl (.int .i64), .sl .raw], .tok, .tok]
def KP (x:dh.bD tG) (y:aY.bD tH):Nat:=(Int.natAbs x.2.1+Int.natAbs x.2.2.2.2.2.1+Int.natAbs x.2.2.2.2.2.2.2.1+List.length ((t8 x).2.1)+Int.natAbs ((t8 x).2.2.2.1)+Raw.fu (⟨y.1.1,y.1.2.1,y.1.2.2.1,y.1.2.2.2.1,y.1.2.2.2.2.1⟩:Raw)+Int.natAbs y.2.1.1+Int.natAbs y.2.1.2.1+Int.natAbs y.2.1.2.2.1+List.length y.2.1.2.2.2.1+Int.natAbs y.2.2.1.1+Int.natAbs y.2.2.1.2.1+Int.natAbs y.2.2.1.2.2.1+List.length y.2.2.1.2.2.2.1+List.length y.2.2.1.2.2.2.2.1+List.length y.2.2.1.2.2.2.2.2.1+Raw.fu (⟨y.2.2.2.1.1,y.2.2.2.1.2.1,y.2.2.2.1.2.2.1,y.2.2.2.1.2.2.2.1,y.2.2.2.1.2.2.2.2.1⟩:Raw)+64)
def UE (x:dh.bD tG) (y:aY.bD tH):oS:=(x.2.1,x.2.2.2.2.2.1,x.2.2.2.2.2.2.2.1,(t8 x).2.1,(t8 x).2.2.1,(t8 x).2.2.2.1,(⟨y.1.1,y.1.2.1,y.1.2.2.1,y.1.2.2.2.1,y.1.2.2.2.2.1⟩:Raw),y.2.1.1,y.2.1.2.1,y.2.1.2.2.1,y.2.1.2.2.2.1,y.2.2.1.1,y.2.2.1.2.1,y.2.2.1.2.2.1,y.2.2.1.2.2.2.1,y.2.2.1.2.2.2.2.1,y.2.2.1.2.2.2.2.2.1,(⟨y.2.2.2.1.1,y.2.2.2.1.2.1,y.2.2.2.1.2.2.1,y.2.2.2.1.2.2.2.1,y.2.2.2.1.2.2.2.2.1⟩:Raw))
def I6 (L:CH R):sI R tG tH:=fun x y K=>L (KP x y) x.2.1 x.2.2.2.2.2.1 x.2.2.2.2.2.2.2.1 ((t8 x).2.1) ((t8 x).2.2.1) ((t8 x).2.2.2.1) (⟨y.1.1,y.1.2.1,y.1.2.2.1,y.1.2.2.2.1,y.1.2.2.2.2.1⟩:Raw) y.2.1.1 y.2.1.2.1 y.2.1.2.2.1 y.2.1.2.2.2.1 y.2.2.1.1 y.2.2.1.2.1 y.2.2.1.2.2.1 y.2.2.1.2.2.2.1 y.2.2.1.2.2.2.2.1 y.2.2.1.2.2.2.2.2.1 (⟨y.2.2.2.1.1,y.2.2.2.1.2.1,y.2.2.2.1.2.2.1,y.2.2.2.1.2.2.2.1,y.2.2.2.1.2.2.2.2.1⟩:Raw) (CJ K)
def xS:Hint := { live := [1,2,4,5,6,7],own := [],rows := [],cells := [(2,4, .str,false),(2,5, .json,false)],drop := [],out := [4,6] }
abbrev oT:Type:=Int×Int×Int×Raw×Int×Int×Int×af×Int×Int×Int×af×(List af)×(List Json)
def A5:oT→St:=fun d=>⟨.undef :: .int .i64 d.1 :: .ptr 0 0 :: .undef :: .ptr 1 0 :: .int .i64 d.2.1 :: .ptr 2 0 :: .int .i64 d.2.2.1::U 97 ([]), [.cells [.int .i64 d.2.2.2.1.kind, .int .i64 d.2.2.2.1.au, .int .i64 d.2.2.2.1.exp, .sl (.int .i64) d.2.2.2.1.text .no, .sl .raw d.2.2.2.1.items .no], .cells [.int .i64 d.2.2.2.2.1, .int .i64 d.2.2.2.2.2.1, .int .i64 d.2.2.2.2.2.2.1, .str d.2.2.2.2.2.2.2.1, .cG, .cG], .cells [.int .i64 d.2.2.2.2.2.2.2.2.1, .int .i64 d.2.2.2.2.2.2.2.2.2.1, .int .i64 d.2.2.2.2.2.2.2.2.2.2.1, .str d.2.2.2.2.2.2.2.2.2.2.2.1, .sl .str d.2.2.2.2.2.2.2.2.2.2.2.2.1 (.own 3), .sl .json d.2.2.2.2.2.2.2.2.2.2.2.2.2 (.own 4)], .tok, .tok]⟩
def CK (K:Ex→St→Option R) (q0:Int) (q1:Int) (q2:Int) (q3:af) (q4:Int) (q5:Int) (q6:Int) (q7:af) (q8:List af) (q9:List Json):Option R:=K (.exit 1) ⟨U 4 (.ptr 0 0 :: .undef :: .ptr 1 0::U 98 ([])), [.cells [.int .i64 q0, .int .i64 q1, .int .i64 q2, .str q3, .cG, .cG], .cells [.int .i64 q4, .int .i64 q5, .int .i64 q6, .str q7, .sl .str q8 (.own 2), .sl .json q9 (.own 3)], .tok, .tok]⟩
abbrev tI:List dh := .leaf (.undef) :: .leaf (.int .i64) :: .leaf (.ptr 0 0) :: .leaf (.undef) :: .leaf (.ptr 1 0) :: .leaf (.int .i64) :: .leaf (.ptr 2 0) :: .leaf (.int .i64)::PU 97 ([])
abbrev tJ:List aY := [.cells [.int .i64, .int .i64, .int .i64, .sl (.int .i64), .sl .raw], .cells [.int .i64, .int .i64, .int .i64, .str, .cG, .cG], .cells [.int .i64, .int .i64, .int .i64, .str, .Ui .str 3, .Ui .json 4], .tok, .tok]
def KQ (x:dh.bD tI) (y:aY.bD tJ):Nat:=(Int.natAbs x.2.1+Int.natAbs x.2.2.2.2.2.1+Int.natAbs x.2.2.2.2.2.2.2.1+Raw.fu (⟨y.1.1,y.1.2.1,y.1.2.2.1,y.1.2.2.2.1,y.1.2.2.2.2.1⟩:Raw)+Int.natAbs y.2.1.1+Int.natAbs y.2.1.2.1+Int.natAbs y.2.1.2.2.1+List.length y.2.1.2.2.2.1+Int.natAbs y.2.2.1.1+Int.natAbs y.2.2.1.2.1+Int.natAbs y.2.2.1.2.2.1+List.length y.2.2.1.2.2.2.1+List.length y.2.2.1.2.2.2.2.1+List.length y.2.2.1.2.2.2.2.2.1+64)
def UF (x:dh.bD tI) (y:aY.bD tJ):oT:=(x.2.1,x.2.2.2.2.2.1,x.2.2.2.2.2.2.2.1,(⟨y.1.1,y.1.2.1,y.1.2.2.1,y.1.2.2.2.1,y.1.2.2.2.2.1⟩:Raw),y.2.1.1,y.2.1.2.1,y.2.1.2.2.1,y.2.1.2.2.2.1,y.2.2.1.1,y.2.2.1.2.1,y.2.2.1.2.2.1,y.2.2.1.2.2.2.1,y.2.2.1.2.2.2.2.1,y.2.2.1.2.2.2.2.2.1)
def I7 (L:CI R):sI R tI tJ:=fun x y K=>L (KQ x y) x.2.1 x.2.2.2.2.2.1 x.2.2.2.2.2.2.2.1 (⟨y.1.1,y.1.2.1,y.1.2.2.1,y.1.2.2.2.1,y.1.2.2.2.2.1⟩:Raw) y.2.1.1 y.2.1.2.1 y.2.1.2.2.1 y.2.1.2.2.2.1 y.2.2.1.1 y.2.2.1.2.1 y.2.2.1.2.2.1 y.2.2.1.2.2.2.1 y.2.2.1.2.2.2.2.1 y.2.2.1.2.2.2.2.2.1 (CK K)
section
variable (db:zE R) (eI:Ca R) (aX:gP R) (dm:zD R) (cf:CH R) (bE:CI R)
def rq:List (sS R) := [(37,true,(L1 db aC)),(28,true,(Oj eI aC)),(16,true,(aG rh rj (jY aX) aC)),(35,true,(LU dm aC))]
def xT (cb:Int→Int→Int→af→Bool→Int→Raw→Int→Int→Int→af→Int→Int→Int→af→(List af)→(List Json)→Raw→Option R) (Mk:Int) (x24:Int) (YI:Int) (Xf:af) (x27:Bool) (x28:Int) (SY:Raw) (x30:Int) (x31:Int) (x32:Int) (x33:af) (x34:Int) (x35:Int) (x36:Int) (x37:af) (x38:List af) (x39:List Json) (x40:Raw) (e0:Int→Int→Int→af→Bool→Raw→Int→Int→Int→af→Int→Int→Int→af→(List af)→(List Json)→Raw→Option R):Option R :=
 bif (decide (x28<(x38.length:Int)))then (bif x27 then (cb Mk x24 YI Xf true (IntKind.i64.wrap (x28+1)) (⟨SY.kind,SY.au,SY.exp,SY.text,SY.items⟩:Raw) x30 x31 x32 x33 x34 x35 x36 x37 x38 x39 (⟨x40.kind,x40.au,x40.exp,x40.text,x40.items⟩:Raw))else (bB (decide ((0:Int)≤x28)&&decide (x28<x38.length)) (cb Mk x24 YI Xf ((x38.getD x28.toNat (Ty.br .str))==Xf) (IntKind.i64.wrap (x28+1)) (⟨SY.kind,SY.au,SY.exp,SY.text,SY.items⟩:Raw) x30 x31 x32 x33 x34 x35 x36 x37 x38 x39 (⟨x40.kind,x40.au,x40.exp,x40.text,x40.items⟩:Raw))))else (e0 Mk x24 YI Xf x27 (⟨SY.kind,SY.au,SY.exp,SY.text,SY.items⟩:Raw) x30 x31 x32 x33 x34 x35 x36 x37 x38 x39 (⟨x40.kind,x40.au,x40.exp,x40.text,x40.items⟩:Raw))
def KR (K:Ex→St→Option R) (rc:oS→Option R) (d:oS):Option R:=xT (fun z0 z1 z2 z3 z4 z5 z6 z7 z8 z9 uy pW z12 V7 z14 YJ z16 z17=>rc (z0,z1,z2,z3,z4,z5,z6,z7,z8,z9,uy,pW,z12,V7,z14,YJ,z16,z17)) d.1 d.2.1 d.2.2.1 d.2.2.2.1 d.2.2.2.2.1 d.2.2.2.2.2.1 d.2.2.2.2.2.2.1 d.2.2.2.2.2.2.2.1 d.2.2.2.2.2.2.2.2.1 d.2.2.2.2.2.2.2.2.2.1 d.2.2.2.2.2.2.2.2.2.2.1 d.2.2.2.2.2.2.2.2.2.2.2.1 d.2.2.2.2.2.2.2.2.2.2.2.2.1 d.2.2.2.2.2.2.2.2.2.2.2.2.2.1 d.2.2.2.2.2.2.2.2.2.2.2.2.2.2.1 d.2.2.2.2.2.2.2.2.2.2.2.2.2.2.2.1 d.2.2.2.2.2.2.2.2.2.2.2.2.2.2.2.2.1 d.2.2.2.2.2.2.2.2.2.2.2.2.2.2.2.2.2 (CJ K)
def mn (cb:Int→Int→Int→Raw→Int→Int→Int→af→Int→Int→Int→af→(List af)→(List Json)→Option R) (x7:Int) (x8:Int) (x9:Int) (Gc:Raw) (x11:Int) (NZ:Int) (I8:Int) (Mf:af) (o6:Int) (uJ:Int) (kN:Int) (uB:af) (E1:List af) (Av:List Json) (e0:Int→Int→Int→af→Int→Int→Int→af→(List af)→(List Json)→Option R):Option R :=
 bif (decide (x9<(Gc.items.length:Int)))then (bif (decide (x9<(12:Int)))then (bif (decide (x7<(16:Int)))then (bB (decide ((0:Int)≤x9)&&decide (x9<Gc.items.length)) (bB (decide ((0:Int)≤(min (((Gc.items.getD x9.toNat (Ty.br .raw)).text).length:Int) 8))&&decide ((min (((Gc.items.getD x9.toNat (Ty.br .raw)).text).length:Int) 8)≤((Gc.items.getD x9.toNat (Ty.br .raw)).text).length)) (bB (decide ((0:Int)≤(min (((Gc.items.getD x9.toNat (Ty.br .raw)).text).length:Int) 8))) (db ((((Gc.items.getD x9.toNat (Ty.br .raw)).text).drop 0).take ((min (((Gc.items.getD x9.toNat (Ty.br .raw)).text).length:Int) 8).toNat - 0)) (fun y22=>bif (x8==7)then (cf (Int.natAbs x7+Int.natAbs x8+Int.natAbs x9+List.length y22+Int.natAbs 0+Raw.fu (⟨Gc.kind,Gc.au,Gc.exp,Gc.text,Gc.items⟩:Raw)+Int.natAbs x11+Int.natAbs NZ+Int.natAbs I8+List.length Mf+Int.natAbs o6+Int.natAbs uJ+Int.natAbs kN+List.length uB+List.length E1+List.length Av+Raw.fu (⟨(Gc.items.getD x9.toNat (Ty.br .raw)).kind,(Gc.items.getD x9.toNat (Ty.br .raw)).au,(Gc.items.getD x9.toNat (Ty.br .raw)).exp,(Gc.items.getD x9.toNat (Ty.br .raw)).text,(Gc.items.getD x9.toNat (Ty.br .raw)).items⟩:Raw)+64) x7 x8 x9 y22 false 0 (⟨Gc.kind,Gc.au,Gc.exp,Gc.text,Gc.items⟩:Raw) x11 NZ I8 Mf o6 uJ kN uB E1 Av (⟨(Gc.items.getD x9.toNat (Ty.br .raw)).kind,(Gc.items.getD x9.toNat (Ty.br .raw)).au,(Gc.items.getD x9.toNat (Ty.br .raw)).exp,(Gc.items.getD x9.toNat (Ty.br .raw)).text,(Gc.items.getD x9.toNat (Ty.br .raw)).items⟩:Raw) (fun YH y43 y44 y45 y46 Ux y48 y49 y50 YK Uy VK VL y55 y56 y57 y58=>bif y46 then (cb YH y43 (IntKind.i64.wrap (y44+1)) (⟨Ux.kind,Ux.au,Ux.exp,Ux.text,Ux.items⟩:Raw) y48 y49 y50 YK Uy VK VL y55 y56 y57)else (bB (decide ((y56.length+1)*16≤140737488355328)) (aX (⟨y58.kind,y58.au,y58.exp,y58.text,y58.items⟩:Raw) (IntKind.i64.wrap (YH+1)) (fun y59=>bB (decide ((y57.length+1)*88≤140737488355328)) (cb YH y43 (IntKind.i64.wrap (y44+1)) (⟨Ux.kind,Ux.au,Ux.exp,Ux.text,Ux.items⟩:Raw) y48 y49 y50 YK Uy VK VL y55 (y56++([y45]:List af)) (y57++([(⟨y59.kind,⟨y59.num.au,y59.num.exp⟩,y59.text,y59.names,y59.items⟩:Json)]:List Json))))))))else (aX (⟨(Gc.items.getD x9.toNat (Ty.br .raw)).kind,(Gc.items.getD x9.toNat (Ty.br .raw)).au,(Gc.items.getD x9.toNat (Ty.br .raw)).exp,(Gc.items.getD x9.toNat (Ty.br .raw)).text,(Gc.items.getD x9.toNat (Ty.br .raw)).items⟩:Raw) (IntKind.i64.wrap (x7+1)) (fun y60=>bB (decide ((Av.length+1)*88≤140737488355328)) (cb x7 x8 (IntKind.i64.wrap (x9+1)) (⟨Gc.kind,Gc.au,Gc.exp,Gc.text,Gc.items⟩:Raw) x11 NZ I8 Mf o6 uJ kN uB E1 (Av++([(⟨y60.kind,⟨y60.num.au,y60.num.exp⟩,y60.text,y60.names,y60.items⟩:Json)]:List Json))))))))))else (e0 x11 NZ I8 Mf o6 uJ kN uB E1 Av))else (e0 x11 NZ I8 Mf o6 uJ kN uB E1 Av))else (e0 x11 NZ I8 Mf o6 uJ kN uB E1 Av)
def KS (K:Ex→St→Option R) (rc:oT→Option R) (d:oT):Option R:=mn db aX cf (fun z0 z1 z2 z3 z4 z5 z6 z7 z8 z9 uy pW z12 V7=>rc (z0,z1,z2,z3,z4,z5,z6,z7,z8,z9,uy,pW,z12,V7)) d.1 d.2.1 d.2.2.1 d.2.2.2.1 d.2.2.2.2.1 d.2.2.2.2.2.1 d.2.2.2.2.2.2.1 d.2.2.2.2.2.2.2.1 d.2.2.2.2.2.2.2.2.1 d.2.2.2.2.2.2.2.2.2.1 d.2.2.2.2.2.2.2.2.2.2.1 d.2.2.2.2.2.2.2.2.2.2.2.1 d.2.2.2.2.2.2.2.2.2.2.2.2.1 d.2.2.2.2.2.2.2.2.2.2.2.2.2 (CK K)
def uF:Nat→Option (Hint×cF R):=fun i=>match i with
 | 11=>some (xS,(cq tI tJ (I7 bE) gl))
 | 18=>some (xR,(cq tG tH (I6 cf) gl))
 | _=>none
theorem PN (K:Ex→St→Option R) (rc:St→Option R) (d:oS):roundOf tt (cz (rq db eI aX dm)) (uF cf bE) 0 ((aA (aQ Tryz.f16)).getD 1 .skip) xR (A4 d) rc K=KR K (fun d=>rc (A4 d)) d:=by kernel_rfl
theorem PO (K:Ex→St→Option R) (rc:St→Option R) (d:oT):roundOf tt (cz (rq db eI aX dm)) (uF cf bE) 0 ((aA (aQ Tryz.f16)).getD 0 .skip) xS (A5 d) rc K=KS db aX cf K (fun d=>rc (A5 d)) d:=by kernel_rfl
def oJ (x1:Raw) (x2:Int) (k0:Json→Option R):Option R :=
 dm x1.kind 7 (fun y3=>bif ((IntKind.i64.wrap (1+y3))==4)then (eI x1.au x1.exp (fun y4=>k0 (⟨(IntKind.i64.wrap (1+y3)),⟨y4.au,y4.exp⟩,([]:af),([]:List af),([]:List Json)⟩:Json)))else (bif ((IntKind.i64.wrap (1+y3))==5)then (bB (decide ((0:Int)≤(min (x1.text.length:Int) 20))&&decide ((min (x1.text.length:Int) 20)≤x1.text.length)) (bB (decide ((0:Int)≤(min (x1.text.length:Int) 20))) (db ((x1.text.drop 0).take ((min (x1.text.length:Int) 20).toNat - 0)) (fun y5=>k0 (⟨(IntKind.i64.wrap (1+y3)),⟨0,0⟩,y5,([]:List af),([]:List Json)⟩:Json)))))else (let j71:=fun (z6:Bool)=>bif z6 then (bE (Int.natAbs x2+Int.natAbs (IntKind.i64.wrap (1+y3))+Int.natAbs 0+Raw.fu (⟨x1.kind,x1.au,x1.exp,x1.text,x1.items⟩:Raw)+Int.natAbs 0+Int.natAbs 0+Int.natAbs 0+List.length ([]:af)+Int.natAbs (IntKind.i64.wrap (1+y3))+Int.natAbs 0+Int.natAbs 0+List.length ([]:af)+List.length ([]:List af)+List.length ([]:List Json)+64) x2 (IntKind.i64.wrap (1+y3)) 0 (⟨x1.kind,x1.au,x1.exp,x1.text,x1.items⟩:Raw) 0 0 0 ([]:af) (IntKind.i64.wrap (1+y3)) 0 0 ([]:af) ([]:List af) ([]:List Json) (fun y61 y62 y63 y64 y65 y66 y67 y68 y69 y70=>k0 (⟨y65,⟨y66,y67⟩,y68,y69,y70⟩:Json)))else (k0 (⟨(IntKind.i64.wrap (1+y3)),⟨0,0⟩,([]:af),([]:List af),([]:List Json)⟩:Json)); bif ((IntKind.i64.wrap (1+y3))==6)then (j71 ((IntKind.i64.wrap (1+y3))==6))else (j71 ((IntKind.i64.wrap (1+y3))==7)))))
theorem law04_Fit_ok:fC (R:=R) tt (rq db eI aX dm) (uF cf bE) false Tryz.f16 rh rj (jY (oJ db eI dm bE)):=fun x y k=>by kernel_rfl
end
theorem law04_Fit_EOk (aX:gP R) (zZ:bb.Spec.Ok Tryz.prog 16 (aG rh rj (jY aX) aC)):dy (R:=R) Tryz.prog (rq (R:=R) db eI aX dm) := .c (M9 R) <| .c (Ol R) <| .p zZ <| .c (M5 R) <| .n
def cf:CH R
 | 0,_,_,_,_,_,_,_,_,_,_,_,_,_,_,_,_,_,_,_=>none
 | n+1,eh,eB,fb,lZ,BR,BS,NG,NH,NI,NJ,yU,FJ,Mr,Ms,UG,x15',x16',x17',e0=>xT (fun eh eB fb lZ BR BS NG NH NI NJ yU FJ Mr Ms UG x15' x16' x17'=>cf n eh eB fb lZ BR BS NG NH NI NJ yU FJ Mr Ms UG x15' x16' x17' e0) eh eB fb lZ BR BS NG NH NI NJ yU FJ Mr Ms UG x15' x16' x17' e0
def KT (K:Ex→St→Option R) (n:Nat) (d:oS):Option R:=cf n d.1 d.2.1 d.2.2.1 d.2.2.2.1 d.2.2.2.2.1 d.2.2.2.2.2.1 d.2.2.2.2.2.2.1 d.2.2.2.2.2.2.2.1 d.2.2.2.2.2.2.2.2.1 d.2.2.2.2.2.2.2.2.2.1 d.2.2.2.2.2.2.2.2.2.2.1 d.2.2.2.2.2.2.2.2.2.2.2.1 d.2.2.2.2.2.2.2.2.2.2.2.2.1 d.2.2.2.2.2.2.2.2.2.2.2.2.2.1 d.2.2.2.2.2.2.2.2.2.2.2.2.2.2.1 d.2.2.2.2.2.2.2.2.2.2.2.2.2.2.2.1 d.2.2.2.2.2.2.2.2.2.2.2.2.2.2.2.2.1 d.2.2.2.2.2.2.2.2.2.2.2.2.2.2.2.2.2 (CJ K)
def bE (aX:gP R):CI R
 | 0,_,_,_,_,_,_,_,_,_,_,_,_,_,_,_=>none
 | n+1,eh,eB,fb,lZ,BR,BS,NG,NH,NI,NJ,yU,FJ,Mr,Ms,e0=>mn db aX cf (fun eh eB fb lZ BR BS NG NH NI NJ yU FJ Mr Ms=>bE aX n eh eB fb lZ BR BS NG NH NI NJ yU FJ Mr Ms e0) eh eB fb lZ BR BS NG NH NI NJ yU FJ Mr Ms e0
def KU (aX:gP R) (K:Ex→St→Option R) (n:Nat) (d:oT):Option R:=bE aX n d.1 d.2.1 d.2.2.1 d.2.2.2.1 d.2.2.2.2.1 d.2.2.2.2.2.1 d.2.2.2.2.2.2.1 d.2.2.2.2.2.2.2.1 d.2.2.2.2.2.2.2.2.1 d.2.2.2.2.2.2.2.2.2.1 d.2.2.2.2.2.2.2.2.2.2.1 d.2.2.2.2.2.2.2.2.2.2.2.1 d.2.2.2.2.2.2.2.2.2.2.2.2.1 d.2.2.2.2.2.2.2.2.2.2.2.2.2 (CK K)
theorem S5 (aX:gP R) (other:cF R) (ho:fZ tt (cz (rq (R:=R) db eI aX dm)) (uF (R:=R) cf (bE aX)) 0 ((aA (aQ Tryz.f16)).getD 1 .skip) xR other):fZ tt (cz (rq (R:=R) db eI aX dm)) (uF (R:=R) cf (bE aX)) 0 ((aA (aQ Tryz.f16)).getD 1 .skip) xR (cq tG tH (I6 (cf)) other) :=
 cx (A:=KT) ho (dD A4 (KR) (KT) (fun _ _=>by kernel_rfl) (PN db eI aX dm cf (bE aX)) (fun _ _ _=>by kernel_rfl)) KP UE (fun _ _=>by kernel_rfl) (fun _ _ _=>by kernel_rfl)
theorem S6 (aX:gP R) (other:cF R) (ho:fZ tt (cz (rq (R:=R) db eI aX dm)) (uF (R:=R) cf (bE aX)) 0 ((aA (aQ Tryz.f16)).getD 0 .skip) xS other):fZ tt (cz (rq (R:=R) db eI aX dm)) (uF (R:=R) cf (bE aX)) 0 ((aA (aQ Tryz.f16)).getD 0 .skip) xS (cq tI tJ (I7 (bE aX)) other) :=
 cx (A:=KU aX) ho (dD A5 (KS db aX cf) (KU aX) (fun _ _=>by kernel_rfl) (PO db eI aX dm cf (bE aX)) (fun _ _ _=>by kernel_rfl)) KQ UF (fun _ _=>by kernel_rfl) (fun _ _ _=>by kernel_rfl)
def OK (aX:gP R):gP R:=fun x1 x2 k0=>oJ db eI dm (bE aX) x1 x2 k0
theorem Wm (R:Type) (aX:gP R) (zZ:bb.Spec.Ok Tryz.prog 16 (aG rh rj (jY aX) aC)):∀a∈aA (aQ Tryz.f16),gE tt (cz (rq (R:=R) db eI aX dm)) (uF (R:=R) cf (bE aX)) 0 a:=by
 refine eV 2 (by kernel_rfl) fun i hi => ?_
 match i,hi with
 | 0,_=>exact bT (by kernel_rfl) (S6 aX _ cQ)
 | 1,_=>exact bT (by kernel_rfl) (S5 aX _ cQ)
 | n+2,hi=>omega
theorem Wn (R:Type) (aX:gP R) (zZ:bb.Spec.Ok Tryz.prog 16 (aG rh rj (jY aX) aC)):od Tryz.prog 16 (VM (OK aX)):=bS TT mixed (law04_Fit_EOk aX zZ) rfl rfl rfl rfl (Wm R aX zZ) (law04_Fit_ok db eI aX dm cf (bE aX))
def jI:Nat→gP R
 | 0,_,_,_=>none
 | n+1,eh,eB,k0'=>OK (jI n) eh eB k0'
theorem law04_Fit_N_succ (n:Nat):jI (R:=R) (n+1)=OK (jI n):=by kernel_rfl
theorem YR (R:Type):∀n,bb.Spec.Ok Tryz.prog 16 (aG rh rj (jY (jI (R:=R) n)) aC) :=
 mW (run:=fun n=>jY (jI (R:=R) n)) (fun x y k=>by kernel_rfl) fun n hyp=>Wn R (jI n) hyp aC (fo _)
def kq:gP R:=fun x1 x2 k0=>jI (Raw.depth x1+2) x1 x2 k0
theorem YS (R:Type):jY (R:=R) kq=fun x y k=>jY (jI (Raw.depth (⟨x.1.1,x.1.2.1,x.1.2.2.1,x.1.2.2.2.1,x.1.2.2.2.2.1⟩:Raw)+2)) x y k:=by kernel_rfl
theorem YT (R:Type) (other:bb.Spec R) (ho:bb.Spec.Ok Tryz.prog 16 other):bb.Spec.Ok Tryz.prog 16 (aG rh rj (jY kq) other) :=
 rP (vE (run:=fun n=>jY (jI (R:=R) n)) (fun x y=>(Raw.depth (⟨x.1.1,x.1.2.1,x.1.2.2.1,x.1.2.2.2.1,x.1.2.2.2.2.1⟩:Raw)+2)) ho (YR R)) (YS R)
variable {R:Type}
abbrev aH (R:Type):Type:=Int→(List Token)→Int→(Json→(List Token)→Int→Option R)→Option R
abbrev cr:List dh := [.leaf (.ptr 0 0), .leaf (.int .i64)]
abbrev ct:List aY := [.cells [.sl .token, .int .i64]]
def bH (fn:aH R):oC R cr ct:=fun x y k=>fn x.2.1 y.1.1 y.1.2.1 (fun q0 q1 q2=>k (.agg [.int .i64 q0.kind, .int .i64 q0.num.au, .int .i64 q0.num.exp, .str q0.text, .sl .str q0.names .no, .sl .json q0.items .no]) [.cells [.sl .token q1 .no, .int .i64 q2]])
def Aa (fn:aH R):=aG cr ct (bH fn)
abbrev kH (R:Type):Type:=Bool→Int→Int→Int→af→(List af)→Nat→Int→(List Json)→(List Token)→Int→(Bool→Int→Int→Int→af→(List af)→Nat→Int→(List Token)→Int→(List Json)→Option R)→(Bool→Int→Int→Int→af→(List af)→Nat→Int→(List Json)→(List Token)→Int→Option R)→(Bool→Int→Int→Int→af→(List af)→Nat→Int→(List Token)→Int→(List Json)→Option R)→(Bool→Int→Int→Int→af→(List af)→Nat→Int→(List Json)→(List Token)→Int→Option R)→Option R
abbrev pz:List dh := [.leaf (.ptr 0 0), .leaf (.ptr 1 0), .leaf (.ptr 2 0), .leaf (.ptr 3 0)]
abbrev pA:List aY := [.cells [.bool], .cells [.int .i64, .int .i64, .int .i64, .str, .Ui .str 4, .row 5], .cells [.ptr 6 0], .cells [.int .i64], .tok, .row .json, .cells [.sl .token, .int .i64]]
def wh (fn:kH R):oC R pz pA:=fun x y k=>fn y.1.1 y.2.1.1 y.2.1.2.1 y.2.1.2.2.1 y.2.1.2.2.2.1 y.2.1.2.2.2.2.1 y.2.1.2.2.2.2.2.1 y.2.2.2.1.1 y.2.2.2.2.2.1 y.2.2.2.2.2.2.1.1 y.2.2.2.2.2.2.1.2.1 (fun q0 q1 q2 q3 q4 q5 q6 q7 q8 q9 q10=>k (.tuple []) [.cells [.bool q0], .cells [.int .i64 q1, .int .i64 q2, .int .i64 q3, .str q4, .sl .str q5 (.own 7), .row 8 q6], .cells [.ptr 6 0], .cells [.int .i64 q7], .dead, .dead, .cells [.sl .token q8 .no, .int .i64 q9], .tok, .row .json q10]) (fun q0 q1 q2 q3 q4 q5 q6 q7 q8 q9 q10=>k (.tuple []) [.cells [.bool q0], .cells [.int .i64 q1, .int .i64 q2, .int .i64 q3, .str q4, .sl .str q5 (.own 7), .row 5 q6], .cells [.ptr 6 0], .cells [.int .i64 q7], .dead, .row .json q8, .cells [.sl .token q9 .no, .int .i64 q10], .tok]) (fun q0 q1 q2 q3 q4 q5 q6 q7 q8 q9 q10=>k (.tuple []) [.cells [.bool q0], .cells [.int .i64 q1, .int .i64 q2, .int .i64 q3, .str q4, .sl .str q5 (.own 4), .row 7 q6], .cells [.ptr 6 0], .cells [.int .i64 q7], .tok, .dead, .cells [.sl .token q8 .no, .int .i64 q9], .row .json q10]) (fun q0 q1 q2 q3 q4 q5 q6 q7 q8 q9 q10=>k (.tuple []) [.cells [.bool q0], .cells [.int .i64 q1, .int .i64 q2, .int .i64 q3, .str q4, .sl .str q5 (.own 4), .row 5 q6], .cells [.ptr 6 0], .cells [.int .i64 q7], .tok, .row .json q8, .cells [.sl .token q9 .no, .int .i64 q10]])
def xb (fn:kH R):=aG pz pA (wh fn)
section
variable (dB:mJ R) (ah:aH R)
def xc:List (sS R) := [(90,false,(BC dB aC)),(42,false,(aG cr ct (bH ah) aC))]
def eQ (x1:Bool) (x2:Int) (x3:Int) (x4:Int) (x5:af) (x6:List af) (x7:Nat) (x8:Int) (x9:List Json) (Gc:List Token) (x11:Int) (k0:Bool→Int→Int→Int→af→(List af)→Nat→Int→(List Token)→Int→(List Json)→Option R) (k1:Bool→Int→Int→Int→af→(List af)→Nat→Int→(List Json)→(List Token)→Int→Option R) (k2:Bool→Int→Int→Int→af→(List af)→Nat→Int→(List Token)→Int→(List Json)→Option R) (k3:Bool→Int→Int→Int→af→(List af)→Nat→Int→(List Json)→(List Token)→Int→Option R):Option R :=
 bif x1 then (dB x6 Gc x11 (fun l9 DN xy=>bB (decide ((x6.length+1)*16≤140737488355328)) (bif (xy==0)then (ah (IntKind.i64.wrap (x8+1)) DN xy (fun yI Fp KD=>bB (decide ((x9.length+1)*88≤140737488355328)) (bB (decide ((0:Int)≤(x7:Int))&&decide ((x7:Int)<(x9.length+1))) (bB (decide ((x7:Int).toNat<(x9++([(⟨0,⟨0,0⟩,([]:af),([]:List af),([]:List Json)⟩:Json)]:List Json)).length)) (k0 x1 x2 x3 x4 x5 (x6++([l9]:List af)) (x9.length+1) x8 Fp KD ((x9++([(⟨0,⟨0,0⟩,([]:af),([]:List af),([]:List Json)⟩:Json)]:List Json)).set ((x7:Int).toNat) (⟨yI.kind,⟨yI.num.au,yI.num.exp⟩,yI.text,yI.names,yI.items⟩:Json)))))))else (k1 x1 x2 x3 x4 x5 (x6++([l9]:List af)) x7 x8 x9 DN xy))))else (bif (x11==0)then (ah (IntKind.i64.wrap (x8+1)) Gc x11 (fun NX Cw Qs=>bB (decide ((x9.length+1)*88≤140737488355328)) (bB (decide ((0:Int)≤(x7:Int))&&decide ((x7:Int)<(x9.length+1))) (bB (decide ((x7:Int).toNat<(x9++([(⟨0,⟨0,0⟩,([]:af),([]:List af),([]:List Json)⟩:Json)]:List Json)).length)) (k2 x1 x2 x3 x4 x5 x6 (x9.length+1) x8 Cw Qs ((x9++([(⟨0,⟨0,0⟩,([]:af),([]:List af),([]:List Json)⟩:Json)]:List Json)).set ((x7:Int).toNat) (⟨NX.kind,⟨NX.num.au,NX.num.exp⟩,NX.text,NX.names,NX.items⟩:Json)))))))else (k3 x1 x2 x3 x4 x5 x6 x7 x8 x9 Gc x11))
theorem GI:fC (R:=R) (tt.mode [.json]) (xc dB ah) AL false Tryz.f89 pz pA (wh (eQ dB ah)):=fun x y k=>by kernel_rfl
end
theorem FK (ah:aH R) (bJ:bb.Spec.Ok Tryz.prog 42 (aG cr ct (bH ah) aC)):dy (R:=R) Tryz.prog (xc (R:=R) dB ah) := .d (HB R) rfl <| .f bJ rfl <| .n
def bw (ah:aH R):kH R:=fun x1 x2 x3 x4 x5 x6 x7 x8 x9 Gc x11 k0 k1 k2 k3=>eQ dB ah x1 x2 x3 x4 x5 x6 x7 x8 x9 Gc x11 k0 k1 k2 k3
theorem E9 (R:Type) (ah:aH R) (bJ:bb.Spec.Ok Tryz.prog 42 (aG cr ct (bH ah) aC)):od Tryz.prog 89 (xb (bw ah)):=bS (TT.mode [.json]) mixed (FK ah bJ) rfl rfl rfl rfl dM (GI dB ah)
abbrev mK (R:Type):Type:=af→(List Token)→Int→Bool→Int→Int→Int→af→Int→((List Token)→Int→Bool→Int→Int→Int→af→Int→Option R)→((List Token)→Int→Bool→Int→Int→Int→af→(List af)→Nat→Int→(List Json)→Option R)→Option R
abbrev tK:List dh := [.leaf (.ptr 0 0), .leaf (.str), .func 89 [] [.ptr 1 0, .ptr 2 0, .ptr 3 0, .ptr 4 0]]
abbrev tL:List aY := [.cells [.sl .token, .int .i64], .cells [.bool], .cells [.int .i64, .int .i64, .int .i64, .str, .cG, .cG], .cells [.ptr 0 0], .cells [.int .i64]]
def Ab (fn:mK R):oC R tK tL:=fun x y k=>fn x.2.1 y.1.1 y.1.2.1 y.2.1.1 y.2.2.1.1 y.2.2.1.2.1 y.2.2.1.2.2.1 y.2.2.1.2.2.2.1 y.2.2.2.2.1.1 (fun q0 q1 q2 q3 q4 q5 q6 q7=>k (.tuple []) [.cells [.sl .token q0 .no, .int .i64 q1], .cells [.bool q2], .cells [.int .i64 q3, .int .i64 q4, .int .i64 q5, .str q6, .cG, .cG], .cells [.ptr 0 0], .cells [.int .i64 q7]]) (fun q0 q1 q2 q3 q4 q5 q6 q7 q8 q9 q10=>k (.tuple []) [.cells [.sl .token q0 .no, .int .i64 q1], .cells [.bool q2], .cells [.int .i64 q3, .int .i64 q4, .int .i64 q5, .str q6, .sl .str q7 (.own 5), .row 6 q8], .cells [.ptr 0 0], .cells [.int .i64 q9], .tok, .row .json q10])
def BF (fn:mK R):=aG tK tL (Ab fn)
abbrev nJ (R:Type):Type:=Nat→af→(List Token)→Int→Bool→Int→Int→Int→af→(List af)→Nat→Int→(List Json)→((List Token)→Int→Bool→Int→Int→Int→af→(List af)→Nat→Int→(List Json)→Option R)→Option R
def kI:Hint := { live := [0,1,2],own := [],rows := [],cells := [(2,4, .str,false),(2,5, .json,true)],drop := [],out := [] }
abbrev gv:Type:=af×(List Token)×Int×Bool×Int×Int×Int×af×(List af)×Nat×Int×(List Json)
def nc:gv→St:=fun d=>⟨.ptr 0 0 :: .str d.1 :: .func 89 [] [.ptr 1 0, .ptr 2 0, .ptr 3 0, .ptr 4 0]::U 23 ([]), [.cells [.sl .token d.2.1 .no, .int .i64 d.2.2.1], .cells [.bool d.2.2.2.1], .cells [.int .i64 d.2.2.2.2.1, .int .i64 d.2.2.2.2.2.1, .int .i64 d.2.2.2.2.2.2.1, .str d.2.2.2.2.2.2.2.1, .sl .str d.2.2.2.2.2.2.2.2.1 (.own 5), .row 6 d.2.2.2.2.2.2.2.2.2.1], .cells [.ptr 0 0], .cells [.int .i64 d.2.2.2.2.2.2.2.2.2.2.1], .tok, .row .json d.2.2.2.2.2.2.2.2.2.2.2]⟩
def nK (K:Ex→St→Option R) (q0:List Token) (q1:Int) (q2:Bool) (q3:Int) (q4:Int) (q5:Int) (q6:af) (q7:List af) (q8:Nat) (q9:Int) (q10:List Json):Option R:=K (.ret) ⟨U 26 ([]), [.cells [.sl .token q0 .no, .int .i64 q1], .cells [.bool q2], .cells [.int .i64 q3, .int .i64 q4, .int .i64 q5, .str q6, .sl .str q7 (.own 5), .row 6 q8], .cells [.ptr 0 0], .cells [.int .i64 q9], .tok, .row .json q10]⟩
abbrev iJ:List dh := .leaf (.ptr 0 0) :: .leaf (.str) :: .func 89 [] [.ptr 1 0, .ptr 2 0, .ptr 3 0, .ptr 4 0]::PU 23 ([])
abbrev iK:List aY := [.cells [.sl .token, .int .i64], .cells [.bool], .cells [.int .i64, .int .i64, .int .i64, .str, .Ui .str 5, .row 6], .cells [.ptr 0 0], .cells [.int .i64], .tok, .row .json]
def wi (x:dh.bD iJ) (y:aY.bD iK):Nat:=(List.length x.2.1+List.length y.1.1+Int.natAbs y.1.2.1+Int.natAbs y.2.2.1.1+Int.natAbs y.2.2.1.2.1+Int.natAbs y.2.2.1.2.2.1+List.length y.2.2.1.2.2.2.1+List.length y.2.2.1.2.2.2.2.1+Int.natAbs y.2.2.2.2.1.1+List.length y.2.2.2.2.2.2.1+64)
def GJ (x:dh.bD iJ) (y:aY.bD iK):gv:=(x.2.1,y.1.1,y.1.2.1,y.2.1.1,y.2.2.1.1,y.2.2.1.2.1,y.2.2.1.2.2.1,y.2.2.1.2.2.2.1,y.2.2.1.2.2.2.2.1,y.2.2.1.2.2.2.2.2.1,y.2.2.2.2.1.1,y.2.2.2.2.2.2.1)
def vm (L:nJ R):sI R iJ iK:=fun x y K=>L (wi x y) x.2.1 y.1.1 y.1.2.1 y.2.1.1 y.2.2.1.1 y.2.2.1.2.1 y.2.2.1.2.2.1 y.2.2.1.2.2.2.1 y.2.2.1.2.2.2.2.1 y.2.2.1.2.2.2.2.2.1 y.2.2.2.2.1.1 y.2.2.2.2.2.2.1 (nK K)
section
variable (av:gn R) (bw:kH R) (az:jQ R) (aN:nJ R)
def iO:List (sS R) := [(43,false,(ko av aC)),(89,false,(xb bw aC)),(122,false,(tA az aC))]
def oo (cb:af→(List Token)→Int→Bool→Int→Int→Int→af→(List af)→Nat→Int→(List Json)→Option R) (I8:af) (Mf:List Token) (o6:Int) (uJ:Bool) (kN:Int) (uB:Int) (E1:Int) (Av:af) (ZT:List af) (x22:Nat) (Mk:Int) (x24:List Json) (e0:(List Token)→Int→Bool→Int→Int→Int→af→(List af)→Nat→Int→(List Json)→Option R):Option R :=
 bw uJ kN uB E1 Av ZT x22 Mk x24 Mf o6 (fun Kg SQ BQ JF NY Nz Qr Md Xe y34 y35=>bif (y34 != 0)then (e0 Xe y34 Kg SQ BQ JF NY Nz Qr Md y35)else (az I8 Xe y34 (fun y69 y70 y71=>bif y69 then (e0 y70 y71 Kg SQ BQ JF NY Nz Qr Md y35)else (az ([44]:af) y70 y71 (fun y75 y76 y77=>bif (!y75)then (av 40 y76 y77 (fun y78 y79=>e0 y78 y79 Kg SQ BQ JF NY Nz Qr Md y35))else (cb I8 y76 y77 Kg SQ BQ JF NY Nz Qr Md y35)))))) (fun Wg y37 y38 y39 y40 y41 YH y43 y44 y45 y46=>bif (y46 != 0)then (e0 y45 y46 Wg y37 y38 y39 y40 y41 YH y43 y44)else (az I8 y45 y46 (fun y80 y81 y82=>bif y80 then (e0 y81 y82 Wg y37 y38 y39 y40 y41 YH y43 y44)else (az ([44]:af) y81 y82 (fun y86 y87 y88=>bif (!y86)then (av 40 y87 y88 (fun y89 y90=>e0 y89 y90 Wg y37 y38 y39 y40 y41 YH y43 y44))else (cb I8 y87 y88 Wg y37 y38 y39 y40 y41 YH y43 y44)))))) (fun Ux y48 y49 y50 YK Uy VK VL y55 y56 y57=>bif (y56 != 0)then (e0 y55 y56 Ux y48 y49 y50 YK Uy VK VL y57)else (az I8 y55 y56 (fun y91 y92 y93=>bif y91 then (e0 y92 y93 Ux y48 y49 y50 YK Uy VK VL y57)else (az ([44]:af) y92 y93 (fun y97 y98 y99=>bif (!y97)then (av 40 y98 y99 (fun y100 y101=>e0 y100 y101 Ux y48 y49 y50 YK Uy VK VL y57))else (cb I8 y98 y99 Ux y48 y49 y50 YK Uy VK VL y57)))))) (fun y58 y59 y60 y61 y62 y63 y64 y65 y66 y67 y68=>bif (y68 != 0)then (e0 y67 y68 y58 y59 y60 y61 y62 y63 y64 y65 y66)else (az I8 y67 y68 (fun y102 y103 y104=>bif y102 then (e0 y103 y104 y58 y59 y60 y61 y62 y63 y64 y65 y66)else (az ([44]:af) y103 y104 (fun y108 y109 y110=>bif (!y108)then (av 40 y109 y110 (fun y111 y112=>e0 y111 y112 y58 y59 y60 y61 y62 y63 y64 y65 y66))else (cb I8 y109 y110 y58 y59 y60 y61 y62 y63 y64 y65 y66))))))
def wj (K:Ex→St→Option R) (rc:gv→Option R) (d:gv):Option R:=oo av bw az (fun z0 z1 z2 z3 z4 z5 z6 z7 z8 z9 uy pW=>rc (z0,z1,z2,z3,z4,z5,z6,z7,z8,z9,uy,pW)) d.1 d.2.1 d.2.2.1 d.2.2.2.1 d.2.2.2.2.1 d.2.2.2.2.2.1 d.2.2.2.2.2.2.1 d.2.2.2.2.2.2.2.1 d.2.2.2.2.2.2.2.2.1 d.2.2.2.2.2.2.2.2.2.1 d.2.2.2.2.2.2.2.2.2.2.1 d.2.2.2.2.2.2.2.2.2.2.2 (nK K)
def kr:Nat→Option (Hint×cF R):=fun i=>match i with
 | 1=>some (kI,(cq iJ iK (vm aN) gl))
 | _=>none
theorem Ee (K:Ex→St→Option R) (rc:St→Option R) (d:gv):roundOf (tt.mode [.json]) (cz (iO av bw az)) (kr aN) 5 ((aA (aQ Tryz.f88)).getD 0 .skip) kI (nc d) rc K=wj av bw az K (fun d=>rc (nc d)) d:=by kernel_rfl
def BG (x1:af) (x2:List Token) (x3:Int) (x4:Bool) (x5:Int) (x6:Int) (x7:Int) (x8:af) (x9:Int) (k0:(List Token)→Int→Bool→Int→Int→Int→af→Int→Option R) (k1:(List Token)→Int→Bool→Int→Int→Int→af→(List af)→Nat→Int→(List Json)→Option R):Option R :=
 az x1 x2 x3 (fun o5 jf l9=>bif o5 then (k0 jf l9 x4 x5 x6 x7 x8 x9)else (aN (List.length x1+List.length jf+Int.natAbs l9+Int.natAbs x5+Int.natAbs x6+Int.natAbs x7+List.length x8+List.length ([]:List af)+Int.natAbs x9+List.length ([]:List Json)+64) x1 jf l9 x4 x5 x6 x7 x8 ([]:List af) 0 x9 ([]:List Json) (fun y113 y114 y115 y116 y117 y118 y119 y120 y121 y122 y123=>k1 y113 y114 y115 y116 y117 y118 y119 y120 y121 y122 y123)))
theorem JN:fC (R:=R) (tt.mode [.json]) (iO av bw az) (kr aN) false Tryz.f88 tK tL (Ab (BG az aN)):=fun x y k=>by kernel_rfl
end
theorem IC (ah:aH R) (bJ:bb.Spec.Ok Tryz.prog 42 (aG cr ct (bH ah) aC)):dy (R:=R) Tryz.prog (iO (R:=R) av (bw ah) az) := .d (lr R) rfl <| .d (E9 R ah bJ) rfl <| .d (xa R) rfl <| .n
def aN (ah:aH R):nJ R
 | 0,_,_,_,_,_,_,_,_,_,_,_,_,_=>none
 | n+1,eh,eB,fb,lZ,BR,BS,NG,NH,NI,NJ,yU,FJ,e0=>oo av (bw ah) az (fun eh eB fb lZ BR BS NG NH NI NJ yU FJ=>aN ah n eh eB fb lZ BR BS NG NH NI NJ yU FJ e0) eh eB fb lZ BR BS NG NH NI NJ yU FJ e0
def wk (ah:aH R) (K:Ex→St→Option R) (n:Nat) (d:gv):Option R:=aN ah n d.1 d.2.1 d.2.2.1 d.2.2.2.1 d.2.2.2.2.1 d.2.2.2.2.2.1 d.2.2.2.2.2.2.1 d.2.2.2.2.2.2.2.1 d.2.2.2.2.2.2.2.2.1 d.2.2.2.2.2.2.2.2.2.1 d.2.2.2.2.2.2.2.2.2.2.1 d.2.2.2.2.2.2.2.2.2.2.2 (nK K)
theorem FL (ah:aH R) (other:cF R) (ho:fZ (tt.mode [.json]) (cz (iO (R:=R) av (bw ah) az)) (kr (R:=R) (aN ah)) 5 ((aA (aQ Tryz.f88)).getD 0 .skip) kI other):fZ (tt.mode [.json]) (cz (iO (R:=R) av (bw ah) az)) (kr (R:=R) (aN ah)) 5 ((aA (aQ Tryz.f88)).getD 0 .skip) kI (cq iJ iK (vm (aN ah)) other) :=
 cx (A:=wk ah) ho (dD nc (wj av (bw ah) az) (wk ah) (fun _ _=>by kernel_rfl) (Ee av (bw ah) az (aN ah)) (fun _ _ _=>by kernel_rfl)) wi GJ (fun _ _=>by kernel_rfl) (fun _ _ _=>by kernel_rfl)
def cg (ah:aH R):mK R:=fun x1 x2 x3 x4 x5 x6 x7 x8 x9 k0 k1=>BG az (aN ah) x1 x2 x3 x4 x5 x6 x7 x8 x9 k0 k1
theorem GK (R:Type) (ah:aH R) (bJ:bb.Spec.Ok Tryz.prog 42 (aG cr ct (bH ah) aC)):∀a∈aA (aQ Tryz.f88),gE (tt.mode [.json]) (cz (iO (R:=R) av (bw ah) az)) (kr (R:=R) (aN ah)) 5 a:=by
 refine eV 1 (by kernel_rfl) fun i hi => ?_
 match i,hi with
 | 0,_=>exact bT (by kernel_rfl) (FL ah _ cQ)
 | n+1,hi=>omega
theorem HD (R:Type) (ah:aH R) (bJ:bb.Spec.Ok Tryz.prog 42 (aG cr ct (bH ah) aC)):od Tryz.prog 88 (BF (cg ah)):=bS (TT.mode [.json]) mixed (IC ah bJ) rfl rfl rfl rfl (GK R ah bJ) (JN av (bw ah) az (aN ah))
abbrev lW (R:Type):Type:=Bool→Int→(List Token)→Int→(Json→(List Token)→Int→Option R)→Option R
abbrev sa:List dh := [.leaf (.ptr 0 0), .leaf (.bool), .leaf (.int .i64)]
abbrev sb:List aY := [.cells [.sl .token, .int .i64]]
def yr (fn:lW R):oC R sa sb:=fun x y k=>fn x.2.1 x.2.2.1 y.1.1 y.1.2.1 (fun q0 q1 q2=>k (.agg [.int .i64 q0.kind, .int .i64 q0.num.au, .int .i64 q0.num.exp, .str q0.text, .sl .str q0.names .no, .sl .json q0.items .no]) [.cells [.sl .token q1 .no, .int .i64 q2]])
def Ac (fn:lW R):=aG sa sb (yr fn)
section
variable (cg:mK R)
def Ad:List (sS R) := [(88,false,(BF cg aC))]
def Ae (x1:Bool) (x2:Int) (x3:List Token) (x4:Int) (k0:Json→(List Token)→Int→Option R):Option R :=
 bif x1 then (cg ([125]:af) x3 x4 x1 7 0 0 ([]:af) x2 (fun y5 y6 y7 y8 y9 o5 jf l9=>k0 (⟨y8,⟨y9,o5⟩,jf,([]:List af),([]:List Json)⟩:Json) y5 y6) (fun DN xy yI Fp KD NX Cw Qs D7 y22 y23=>k0 (⟨Fp,⟨KD,NX⟩,Cw,Qs,y23⟩:Json) DN xy))else (cg ([93]:af) x3 x4 x1 6 0 0 ([]:af) x2 (fun y24 Kg SQ BQ JF NY Nz Qr=>k0 (⟨BQ,⟨JF,NY⟩,Nz,([]:List af),([]:List Json)⟩:Json) y24 Kg) (fun Md Xe y34 y35 Wg y37 y38 y39 y40 y41 YH=>k0 (⟨y35,⟨Wg,y37⟩,y38,y39,YH⟩:Json) Md Xe))
theorem ID:fC (R:=R) (tt.mode [.json]) (Ad cg) AL false Tryz.f64 sa sb (yr (Ae cg)):=fun x y k=>by kernel_rfl
end
theorem HE (ah:aH R) (bJ:bb.Spec.Ok Tryz.prog 42 (aG cr ct (bH ah) aC)):dy (R:=R) Tryz.prog (Ad (R:=R) (cg ah)) := .d (HD R ah bJ) rfl <| .n
def dq (ah:aH R):lW R:=fun x1 x2 x3 x4 k0=>Ae (cg ah) x1 x2 x3 x4 k0
theorem GL (R:Type) (ah:aH R) (bJ:bb.Spec.Ok Tryz.prog 42 (aG cr ct (bH ah) aC)):od Tryz.prog 64 (Ac (dq ah)):=bS (TT.mode [.json]) mixed (HE ah bJ) rfl rfl rfl rfl dM (ID (cg ah))
section
variable (av:gn R) (dq:lW R)
def Af:List (sS R) := [(43,false,(ko av aC)),(64,false,(Ac dq aC))]
def Ag (x1:Int) (x2:List Token) (x3:Int) (k0:Json→(List Token)→Int→Option R):Option R :=
 bB (decide ((0:Int)<x2.length)) (let j20:=fun (z4:Bool)=>let j19:=fun (z9:List Token) (uy:Int)=>bif (uy != 0)then (k0 (⟨0,⟨0,0⟩,([]:af),([]:List af),([]:List Json)⟩:Json) z9 uy)else (bB (decide ((1:Int)≤z9.length)) (let j18:=bif ((x2.getD 0 (Ty.br .token)).kind==3)then (k0 (⟨4,⟨(x2.getD 0 (Ty.br .token)).num.au,(x2.getD 0 (Ty.br .token)).num.exp⟩,([]:af),([]:List af),([]:List Json)⟩:Json) (z9.drop 1) uy)else (k0 (⟨5,⟨0,0⟩,(x2.getD 0 (Ty.br .token)).text,([]:List af),([]:List Json)⟩:Json) (z9.drop 1) uy); let j17:=fun (pW:Bool)=>bif pW then (bif ((x2.getD 0 (Ty.br .token)).kind==1)then (dq ((x2.getD 0 (Ty.br .token)).text==([123]:af)) x1 (z9.drop 1) uy (fun l9 DN xy=>k0 (⟨l9.kind,⟨l9.num.au,l9.num.exp⟩,l9.text,l9.names,l9.items⟩:Json) DN xy))else (j18))else (let j16:=fun (YJ:Bool)=>bif YJ then (bif ((x2.getD 0 (Ty.br .token)).kind==4)then (k0 (⟨((ma .str (.int .i64) ((x2.getD 0 (Ty.br .token)).text) ([(([110,117,108,108]:af),1),(([102,97,108,115,101]:af),2),(([116,114,117,101]:af),3)]:List (af×Int))):Int),⟨0,0⟩,([]:af),([]:List af),([]:List Json)⟩:Json) (z9.drop 1) uy)else (j18))else (j18); bif ((x2.getD 0 (Ty.br .token)).text==([110,117,108,108]:af))then (j16 ((x2.getD 0 (Ty.br .token)).text==([110,117,108,108]:af)))else (bif ((x2.getD 0 (Ty.br .token)).text==([102,97,108,115,101]:af))then (j16 ((x2.getD 0 (Ty.br .token)).text==([102,97,108,115,101]:af)))else (j16 ((x2.getD 0 (Ty.br .token)).text==([116,114,117,101]:af))))); bif ((x2.getD 0 (Ty.br .token)).text==([91]:af))then (j17 ((x2.getD 0 (Ty.br .token)).text==([91]:af)))else (j17 ((x2.getD 0 (Ty.br .token)).text==([123]:af))))); bif (!z4)then (av 40 x2 x3 (fun y5 y6=>j19 y5 y6))else (bif (decide (x1>(16:Int)))then (av 41 x2 x3 (fun y7 y8=>j19 y7 y8))else (j19 x2 x3)); bif ((x2.getD 0 (Ty.br .token)).kind==2)then (j20 true)else (bif ((x2.getD 0 (Ty.br .token)).kind==3)then (j20 true)else (bif ((x2.getD 0 (Ty.br .token)).kind==4)then (j20 true)else (bif ((x2.getD 0 (Ty.br .token)).kind==1)then (bif ((x2.getD 0 (Ty.br .token)).text==([91]:af))then (j20 true)else (j20 ((x2.getD 0 (Ty.br .token)).text==([123]:af))))else (j20 false)))))
theorem IE:fC (R:=R) (tt.mode [.json]) (Af av dq) AL false Tryz.f42 cr ct (bH (Ag av dq)):=fun x y k=>by kernel_rfl
end
theorem HF (ah:aH R) (bJ:bb.Spec.Ok Tryz.prog 42 (aG cr ct (bH ah) aC)):dy (R:=R) Tryz.prog (Af (R:=R) av (dq ah)) := .d (lr R) rfl <| .d (GL R ah bJ) rfl <| .n
def sc (ah:aH R):aH R:=fun x1 x2 x3 k0=>Ag av (dq ah) x1 x2 x3 k0
theorem FM (R:Type) (ah:aH R) (bJ:bb.Spec.Ok Tryz.prog 42 (aG cr ct (bH ah) aC)):od Tryz.prog 42 (Aa (sc ah)):=bS (TT.mode [.json]) mixed (HF ah bJ) rfl rfl rfl rfl dM (IE av (dq ah))
def bA:Nat→aH R
 | 0,_,_,_,_=>none
 | n+1,eh,eB,fb,k0'=>sc (bA n) eh eB fb k0'
theorem VN (n:Nat):bA (R:=R) (n+1)=sc (bA n):=by kernel_rfl
theorem GM (R:Type):∀n,bb.Spec.Ok Tryz.prog 42 (aG cr ct (bH (bA (R:=R) n)) aC) :=
 mW (run:=fun n=>bH (bA (R:=R) n)) (fun x y k=>by kernel_rfl) fun n hyp=>FM R (bA n) hyp aC (fo _)
def dJ:aH R:=fun x1 x2 x3 k0=>bA 40 x1 x2 x3 k0
theorem GN (R:Type):bH (R:=R) dJ=fun x y k=>bH (bA 40) x y k:=by kernel_rfl
theorem GO (R:Type) (other:bb.Spec R) (ho:bb.Spec.Ok Tryz.prog 42 other):bb.Spec.Ok Tryz.prog 42 (aG cr ct (bH dJ) other) :=
 rP (vE (run:=fun n=>bH (bA (R:=R) n)) (fun x y=>40) ho (GM R)) (GN R)
variable {R:Type}
abbrev Ah (R:Type):Type:=af→(Json→Int→Int→Option R)→Option R
abbrev Mt:List dh := [.leaf (.str)]
abbrev Mu:List aY := []
def Qz (fn:Ah R):oC R Mt Mu:=fun x y k=>fn x.1 (fun q0 q1 q2=>k (.tuple [.agg [.int .i64 q0.kind, .int .i64 q0.num.au, .int .i64 q0.num.exp, .str q0.text, .sl .str q0.names .no, .sl .json q0.items .no], .int .i64 q1, .int .i64 q2]) [])
def Mv (fn:Ah R):=aG Mt Mu (Qz fn)
section
variable (av:gn R) (dJ:aH R) (nI:EC R)
def S7:List (sS R) := [(43,false,(ko av aC)),(42,false,(Aa dJ aC)),(25,true,(S2 nI aC))]
def GP (x1:af) (k0:Json→Int→Int→Option R):Option R :=
 nI x1 (fun y2 y3 y4=>bif (y3 != 0)then (k0 (⟨0,⟨0,0⟩,([]:af),([]:List af),([]:List Json)⟩:Json) y3 y4)else (dJ 1 y2 0 (fun y5 y6 y7=>let j12:=fun (uy:List Token) (pW:Int)=>bif (pW != 0)then (bB (decide ((0:Int)<uy.length)) (k0 (⟨0,⟨0,0⟩,([]:af),([]:List af),([]:List Json)⟩:Json) pW ((uy.getD 0 (Ty.br .token)).at_)))else (k0 (⟨y5.kind,⟨y5.num.au,y5.num.exp⟩,y5.text,y5.names,y5.items⟩:Json) 0 0); bB (decide ((0:Int)<y6.length)) (bif ((y6.getD 0 (Ty.br .token)).kind != 5)then (av 40 y6 y7 (fun y8 y9=>j12 y8 y9))else (j12 y6 y7)))))
theorem json_Parse_ok:fC (R:=R) tt (S7 av dJ nI) AL false Tryz.f20 Mt Mu (Qz (GP av dJ nI)):=fun x y k=>by kernel_rfl
end
theorem YU:dy (R:=R) Tryz.prog (S7 (R:=R) av dJ nI) := .d (lr R) rfl <| .f (GO R _ (fo _)) rfl <| .c (Wl R) <| .n
def er:Ah R:=fun x1 k0=>GP av dJ nI x1 k0
theorem Ni (R:Type):od Tryz.prog 20 (Mv (er (R:=R))):=bS TT mixed (YU (R:=R)) rfl rfl rfl rfl dM (json_Parse_ok av dJ nI)
abbrev jZ (R:Type):Type:=(List af)→(List af)→(Bool→Option R)→Option R
abbrev oq:List dh := [.leaf (.sl .str), .leaf (.sl .str)]
abbrev ot:List aY := []
def vn (fn:jZ R):oC R oq ot:=fun x y k=>fn x.1 x.2.1 (fun q0=>k (.bool q0) [])
def wm (fn:jZ R):=aG oq ot (vn fn)
abbrev ly (R:Type):Type:=Nat→(List af)→(List af)→Int→Int→(Option R)→(Bool→Option R)→Option R
def iU:Hint := { live := [0,1,12,13],own := [],rows := [],cells := [],drop := [],out := [4] }
abbrev ft:Type:=(List af)×(List af)×Int×Int
def kL:ft→St:=fun d=>⟨.sl .str d.1 .no :: .sl .str d.2.1 .no::U 10 (.int .i64 d.2.2.1 :: .int .i64 d.2.2.2::U 12 ([])), []⟩
def lz (K:Ex→St→Option R):Option R:=K (.exit 0) ⟨U 26 ([]), []⟩
def lA (K:Ex→St→Option R) (q0:Bool):Option R:=K (.ret) ⟨U 4 (.bool q0::U 21 ([])), []⟩
abbrev gC:List dh := .leaf (.sl .str) :: .leaf (.sl .str)::PU 10 (.leaf (.int .i64) :: .leaf (.int .i64)::PU 12 ([]))
abbrev gD:List aY := []
def sC (x:dh.bD gC) (y:aY.bD gD):Nat:=(List.length x.1+List.length x.2.1+Int.natAbs ((t8 x).2.2.2.2.1)+Int.natAbs ((t8 x).2.2.2.2.2.1)+64)
def DE (x:dh.bD gC) (y:aY.bD gD):ft:=(x.1,x.2.1,(t8 x).2.2.2.2.1,(t8 x).2.2.2.2.2.1)
def rA (L:ly R):sI R gC gD:=fun x y K=>L (sC x y) x.1 x.2.1 ((t8 x).2.2.2.2.1) ((t8 x).2.2.2.2.2.1) (lz K) (lA K)
section
variable (bj:ly R)
def iV (cb:(List af)→(List af)→Int→Int→Option R) (x3:List af) (x4:List af) (x5:Int) (x6:Int) (e0:Option R) (e1:Bool→Option R):Option R :=
 bif (decide (x6<x5))then (bB (decide ((0:Int)≤x6)&&decide (x6<x3.length)) (bB (decide ((0:Int)≤x6)&&decide (x6<x4.length)) (bif (!((x3.getD x6.toNat (Ty.br .str))==(x4.getD x6.toNat (Ty.br .str))))then (e1 false)else (cb x3 x4 x5 (IntKind.i64.wrap (x6+1))))))else (e0)
def sD (K:Ex→St→Option R) (rc:ft→Option R) (d:ft):Option R:=iV (fun z0 z1 z2 z3=>rc (z0,z1,z2,z3)) d.1 d.2.1 d.2.2.1 d.2.2.2 (lz K) (lA K)
def iL:Nat→Option (Hint×cF R):=fun i=>match i with
 | 4=>some (iU,(cq gC gD (rA bj) gl))
 | _=>none
theorem A6 (K:Ex→St→Option R) (rc:St→Option R) (d:ft):roundOf tt (cz []) (iL bj) 0 ((aA (aQ Tryz.f44)).getD 0 .skip) iU (kL d) rc K=sD K (fun d=>rc (kL d)) d:=by kernel_rfl
def wo (x1:List af) (x2:List af) (k0:Bool→Option R):Option R :=
 bif ((x1.length:Int) != (x2.length:Int))then (k0 false)else (bj (List.length x1+List.length x2+Int.natAbs (x1.length:Int)+Int.natAbs 0+64) x1 x2 (x1.length:Int) 0 (k0 true) (fun y7=>k0 y7))
theorem FN:fC (R:=R) tt [] (iL bj) false Tryz.f44 oq ot (vn (wo bj)):=fun x y k=>by kernel_rfl
end
def bj:ly R
 | 0,_,_,_,_,_,_=>none
 | n+1,eh,eB,fb,lZ,e0,e1=>iV (fun eh eB fb lZ=>bj n eh eB fb lZ e0 e1) eh eB fb lZ e0 e1
def sE (K:Ex→St→Option R) (n:Nat) (d:ft):Option R:=bj n d.1 d.2.1 d.2.2.1 d.2.2.2 (lz K) (lA K)
theorem CL (other:cF R) (ho:fZ tt (cz []) (iL (R:=R) bj) 0 ((aA (aQ Tryz.f44)).getD 0 .skip) iU other):fZ tt (cz []) (iL (R:=R) bj) 0 ((aA (aQ Tryz.f44)).getD 0 .skip) iU (cq gC gD (rA (bj)) other) :=
 cx (A:=sE) ho (dD kL (sD) (sE) (fun _ _=>by kernel_rfl) (A6 bj) (fun _ _ _=>by kernel_rfl)) sC DE (fun _ _=>by kernel_rfl) (fun _ _ _=>by kernel_rfl)
def cS:jZ R:=fun x1 x2 k0=>wo bj x1 x2 k0
theorem DF (R:Type):∀a∈aA (aQ Tryz.f44),gE tt (cz []) (iL (R:=R) bj) 0 a:=by
 refine eV 1 (by kernel_rfl) fun i hi => ?_
 match i,hi with
 | 0,_=>exact bT (by kernel_rfl) (CL _ cQ)
 | n+1,hi=>omega
theorem Ef (R:Type):od Tryz.prog 44 (wm (cS (R:=R))):=bS TT mixed .n rfl rfl rfl rfl (DF R) (FN bj)
abbrev eX (R:Type):Type:=Json→Json→(Bool→Option R)→Option R
abbrev nd:List dh := [.agg [.int .i64, .int .i64, .int .i64, .str, .sl .str, .sl .json], .agg [.int .i64, .int .i64, .int .i64, .str, .sl .str, .sl .json]]
abbrev nf:List aY := []
def iM (fn:eX R):oC R nd nf:=fun x y k=>fn (⟨x.1.1,⟨x.1.2.1,x.1.2.2.1⟩,x.1.2.2.2.1,x.1.2.2.2.2.1,x.1.2.2.2.2.2.1⟩:Json) (⟨x.2.1.1,⟨x.2.1.2.1,x.2.1.2.2.1⟩,x.2.1.2.2.2.1,x.2.1.2.2.2.2.1,x.2.1.2.2.2.2.2.1⟩:Json) (fun q0=>k (.bool q0) [])
def OL (fn:eX R):=aG nd nf (iM fn)
abbrev fH (R:Type):Type:=(List Json)→(List Json)→(Bool→Option R)→Option R
abbrev ir:List dh := [.leaf (.sl .json), .leaf (.sl .json), .leaf (.fn 21)]
abbrev iu:List aY := []
def lL (fn:fH R):oC R ir iu:=fun x y k=>fn x.1 x.2.1 (fun q0=>k (.bool q0) [])
def l0 (fn:fH R):=aG ir iu (lL fn)
abbrev gF (R:Type):Type:=Nat→(List Json)→(List Json)→Int→Int→(Option R)→(Bool→Option R)→Option R
def eY:Hint := { live := [1,2,15,16,17],own := [],rows := [],cells := [],drop := [],out := [6] }
abbrev cX:Type:=(List Json)×(List Json)×Int×Int
def gp:cX→St:=fun d=>⟨.undef :: .sl .json d.1 .no :: .func 21 [] []::U 12 (.sl .json d.2.1 .no :: .int .i64 d.2.2.1 :: .int .i64 d.2.2.2::U 14 ([])), []⟩
def gG (K:Ex→St→Option R):Option R:=K (.exit 0) ⟨U 32 ([]), []⟩
def gH (K:Ex→St→Option R) (q0:Bool):Option R:=K (.ret) ⟨U 6 (.bool q0::U 25 ([])), []⟩
abbrev dN:List dh := .leaf (.undef) :: .leaf (.sl .json) :: .leaf (.fn 21)::PU 12 (.leaf (.sl .json) :: .leaf (.int .i64) :: .leaf (.int .i64)::PU 14 ([]))
abbrev dO:List aY := []
def ku (x:dh.bD dN) (y:aY.bD dO):Nat:=(List.length x.2.1+List.length ((t8 x).2.2.2.2.2.2.2.1)+Int.natAbs ((t8 (t8 x)).1)+Int.natAbs ((t8 (t8 x)).2.1)+64)
def tM (x:dh.bD dN) (y:aY.bD dO):cX:=(x.2.1,(t8 x).2.2.2.2.2.2.2.1,(t8 (t8 x)).1,(t8 (t8 x)).2.1)
def j0 (L:gF R):sI R dN dO:=fun x y K=>L (ku x y) x.2.1 ((t8 x).2.2.2.2.2.2.2.1) ((t8 (t8 x)).1) ((t8 (t8 x)).2.1) (gG K) (gH K)
section
variable (aV:eX R) (aD:gF R)
def dC:List (sS R) := [(21,true,(aG nd nf (iM aV) aC))]
def cY (cb:(List Json)→(List Json)→Int→Int→Option R) (x3:List Json) (x4:List Json) (x5:Int) (x6:Int) (e0:Option R) (e1:Bool→Option R):Option R :=
 bif (decide (x6<x5))then (bB (decide ((0:Int)≤x6)&&decide (x6<x4.length)) (bB (decide ((0:Int)≤x6)&&decide (x6<x3.length)) (aV (⟨(x4.getD x6.toNat (Ty.br .json)).kind,⟨(x4.getD x6.toNat (Ty.br .json)).num.au,(x4.getD x6.toNat (Ty.br .json)).num.exp⟩,(x4.getD x6.toNat (Ty.br .json)).text,(x4.getD x6.toNat (Ty.br .json)).names,(x4.getD x6.toNat (Ty.br .json)).items⟩:Json) (⟨(x3.getD x6.toNat (Ty.br .json)).kind,⟨(x3.getD x6.toNat (Ty.br .json)).num.au,(x3.getD x6.toNat (Ty.br .json)).num.exp⟩,(x3.getD x6.toNat (Ty.br .json)).text,(x3.getD x6.toNat (Ty.br .json)).names,(x3.getD x6.toNat (Ty.br .json)).items⟩:Json) (fun y7=>bif (!y7)then (e1 false)else (cb x3 x4 x5 (IntKind.i64.wrap (x6+1)))))))else (e0)
def kv (K:Ex→St→Option R) (rc:cX→Option R) (d:cX):Option R:=cY aV (fun z0 z1 z2 z3=>rc (z0,z1,z2,z3)) d.1 d.2.1 d.2.2.1 d.2.2.2 (gG K) (gH K)
def eG:Nat→Option (Hint×cF R):=fun i=>match i with
 | 4=>some (eY,(cq dN dO (j0 aD) gl))
 | _=>none
theorem rB (K:Ex→St→Option R) (rc:St→Option R) (d:cX):roundOf tt (cz (dC aV)) (eG aD) 0 ((aA (aQ Tryz.f45)).getD 0 .skip) eY (gp d) rc K=kv aV K (fun d=>rc (gp d)) d:=by kernel_rfl
def l7 (x1:List Json) (x2:List Json) (k0:Bool→Option R):Option R :=
 bif ((x1.length:Int) != (x2.length:Int))then (k0 false)else (aD (List.length x2+List.length x1+Int.natAbs (x1.length:Int)+Int.natAbs 0+64) x2 x1 (x1.length:Int) 0 (k0 true) (fun y8=>k0 y8))
theorem vo:fC (R:=R) tt (dC aV) (eG aD) false Tryz.f45 ir iu (lL (l7 aD)):=fun x y k=>by kernel_rfl
end
theorem uM (aV:eX R) (mL:bb.Spec.Ok Tryz.prog 21 (aG nd nf (iM aV) aC)):dy (R:=R) Tryz.prog (dC (R:=R) aV) := .p mL <| .n
def aD (aV:eX R):gF R
 | 0,_,_,_,_,_,_=>none
 | n+1,eh,eB,fb,lZ,e0,e1=>cY aV (fun eh eB fb lZ=>aD aV n eh eB fb lZ e0 e1) eh eB fb lZ e0 e1
def kz (aV:eX R) (K:Ex→St→Option R) (n:Nat) (d:cX):Option R:=aD aV n d.1 d.2.1 d.2.2.1 d.2.2.2 (gG K) (gH K)
theorem sJ (aV:eX R) (other:cF R) (ho:fZ tt (cz (dC (R:=R) aV)) (eG (R:=R) (aD aV)) 0 ((aA (aQ Tryz.f45)).getD 0 .skip) eY other):fZ tt (cz (dC (R:=R) aV)) (eG (R:=R) (aD aV)) 0 ((aA (aQ Tryz.f45)).getD 0 .skip) eY (cq dN dO (j0 (aD aV)) other) :=
 cx (A:=kz aV) ho (dD gp (kv aV) (kz aV) (fun _ _=>by kernel_rfl) (rB aV (aD aV)) (fun _ _ _=>by kernel_rfl)) ku tM (fun _ _=>by kernel_rfl) (fun _ _ _=>by kernel_rfl)
def bz (aV:eX R):fH R:=fun x1 x2 k0=>l7 (aD aV) x1 x2 k0
theorem tN (R:Type) (aV:eX R) (mL:bb.Spec.Ok Tryz.prog 21 (aG nd nf (iM aV) aC)):∀a∈aA (aQ Tryz.f45),gE tt (cz (dC (R:=R) aV)) (eG (R:=R) (aD aV)) 0 a:=by
 refine eV 1 (by kernel_rfl) fun i hi => ?_
 match i,hi with
 | 0,_=>exact bT (by kernel_rfl) (sJ aV _ cQ)
 | n+1,hi=>omega
theorem uz (R:Type) (aV:eX R) (mL:bb.Spec.Ok Tryz.prog 21 (aG nd nf (iM aV) aC)):od Tryz.prog 45 (l0 (bz aV)):=bS TT mixed (uM aV mL) rfl rfl rfl rfl (tN R aV mL) (vo aV (aD aV))
section
variable (bz:fH R) (cS:jZ R)
def VO:List (sS R) := [(45,true,(l0 bz aC)),(44,true,(wm cS aC))]
def I9 (x1:Json) (x2:Json) (k0:Bool→Option R):Option R :=
 bif (x1.kind==x2.kind)then (bif (x1.num.au==x2.num.au&&(x1.num.exp==x2.num.exp&&true))then (bif (x1.text==x2.text)then (cS x1.names x2.names (fun y3=>bif y3 then (bz x1.items x2.items (fun y4=>k0 y4))else (k0 false)))else (k0 false))else (k0 false))else (k0 false)
theorem json_Same_ok:fC (R:=R) tt (VO bz cS) AL false Tryz.f21 nd nf (iM (I9 bz cS)):=fun x y k=>by kernel_rfl
end
theorem json_Same_EOk (aV:eX R) (mL:bb.Spec.Ok Tryz.prog 21 (aG nd nf (iM aV) aC)):dy (R:=R) Tryz.prog (VO (R:=R) (bz aV) cS) := .c (uz R aV mL) <| .c (Ef R) <| .n
def OM (aV:eX R):eX R:=fun x1 x2 k0=>I9 (bz aV) cS x1 x2 k0
theorem Wo (R:Type) (aV:eX R) (mL:bb.Spec.Ok Tryz.prog 21 (aG nd nf (iM aV) aC)):od Tryz.prog 21 (OL (OM aV)):=bS TT mixed (json_Same_EOk aV mL) rfl rfl rfl rfl dM (json_Same_ok (bz aV) cS)
def kA:Nat→eX R
 | 0,_,_,_=>none
 | n+1,eh,eB,k0'=>OM (kA n) eh eB k0'
theorem json_Same_N_succ (n:Nat):kA (R:=R) (n+1)=OM (kA n):=by kernel_rfl
theorem YV (R:Type):∀n,bb.Spec.Ok Tryz.prog 21 (aG nd nf (iM (kA (R:=R) n)) aC) :=
 mW (run:=fun n=>iM (kA (R:=R) n)) (fun x y k=>by kernel_rfl) fun n hyp=>Wo R (kA n) hyp aC (fo _)
def fN:eX R:=fun x1 x2 k0=>kA (Json.depth x1+2) x1 x2 k0
theorem YW (R:Type):iM (R:=R) fN=fun x y k=>iM (kA (Json.depth (⟨x.1.1,⟨x.1.2.1,x.1.2.2.1⟩,x.1.2.2.2.1,x.1.2.2.2.2.1,x.1.2.2.2.2.2.1⟩:Json)+2)) x y k:=by kernel_rfl
theorem ON (R:Type) (other:bb.Spec R) (ho:bb.Spec.Ok Tryz.prog 21 other):bb.Spec.Ok Tryz.prog 21 (aG nd nf (iM fN) other) :=
 rP (vE (run:=fun n=>iM (kA (R:=R) n)) (fun x y=>(Json.depth (⟨x.1.1,⟨x.1.2.1,x.1.2.2.1⟩,x.1.2.2.2.1,x.1.2.2.2.2.1,x.1.2.2.2.2.2.1⟩:Json)+2)) ho (YV R)) (YW R)
abbrev ED (R:Type):Type:=Int→Int→(Int→Option R)→Option R
abbrev Mw:List dh := [.leaf (.int .i64), .leaf (.int .i64)]
abbrev Mx:List aY := []
def QA (fn:ED R):oC R Mw Mx:=fun x y k=>fn x.1 x.2.1 (fun q0=>k (.int .i64 q0) [])
def S8 (fn:ED R):=aG Mw Mx (QA fn)
section
def S9 (x1:Int) (x2:Int) (k0:Int→Option R):Option R :=
 bif (decide (x1<(0:Int)))then (bB (!decide (x2=0)) (k0 (Int.tmod (IntKind.i64.wrap (0 - (IntKind.i64.wrap (x1+1)))) x2)))else (bB (!decide (x2=0)) (k0 (Int.tmod x1 x2)))
theorem law03_pick_ok:fC (R:=R) tt [] AL false Tryz.f27 Mw Mx (QA S9):=fun x y k=>by kernel_rfl
end
def nL:ED R:=fun x1 x2 k0=>S9 x1 x2 k0
theorem Wp (R:Type):od Tryz.prog 27 (S8 (nL (R:=R))):=bS TT mixed .n rfl rfl rfl rfl dM (law03_pick_ok)
abbrev JO (R:Type):Type:=R1→(af→Option R)→Option R
abbrev My:List dh := [.agg [.int .i64, .int .i64, .int .i64, .sl (.int .i64)]]
abbrev Mz:List aY := []
def QB (fn:JO R):oC R My Mz:=fun x y k=>fn (⟨x.1.1,x.1.2.1,x.1.2.2.1,x.1.2.2.2.1⟩:R1) (fun q0=>k (.str q0) [])
def law03_Word_s (fn:JO R):=aG My Mz (QB fn)
section
variable (db:zE R) (cU:s8 R) (eI:Ca R) (bt:oQ R) (nL:ED R)
def Ta:List (sS R) := [(37,true,(L1 db aC)),(26,true,(Ez cU aC)),(28,true,(Oj eI aC)),(46,true,(Au bt aC)),(27,true,(S8 nL aC))]
def Tb (x1:R1) (k0:af→Option R):Option R :=
 nL x1.kind 4 (fun y2=>bif (y2==0)then (nL x1.au 6 (fun y3=>bB (decide ((0:Int)≤y3)&&decide (y3<(6:Int))) (k0 (([([123]:af),([125]:af),([91]:af),([93]:af),([44]:af),([58]:af)]:List af).getD y3.toNat (Ty.br .str)))))else (bif (y2==1)then (bB (decide ((0:Int)≤(min (x1.text.length:Int) 30))&&decide ((min (x1.text.length:Int) 30)≤x1.text.length)) (bB (decide ((0:Int)≤(min (x1.text.length:Int) 30))) (db ((x1.text.drop 0).take ((min (x1.text.length:Int) 30).toNat - 0)) (fun y4=>cU y4 (fun y5 y6=>k0 y5)))))else (bif (y2==2)then (eI x1.au x1.exp (fun y7=>bt y7 (fun y8=>k0 y8)))else (nL x1.au 3 (fun y9=>bB (decide ((0:Int)≤y9)&&decide (y9<(3:Int))) (k0 (([([116,114,117,101]:af),([102,97,108,115,101]:af),([110,117,108,108]:af)]:List af).getD y9.toNat (Ty.br .str))))))))
theorem law03_Word_ok:fC (R:=R) tt (Ta db cU eI bt nL) AL false Tryz.f24 My Mz (QB (Tb db cU eI bt nL)):=fun x y k=>by kernel_rfl
end
theorem YX:dy (R:=R) Tryz.prog (Ta (R:=R) db cU eI bt nL) := .c (M9 R) <| .c (D6 R) <| .c (Ol R) <| .c (AT R) <| .c (Wp R) <| .n
def YY:JO R:=fun x1 k0=>Tb db cU eI bt nL x1 k0
theorem law03_Word_S_ok (R:Type):od Tryz.prog 24 (law03_Word_s (YY (R:=R))):=bS TT mixed (YX (R:=R)) rfl rfl rfl rfl dM (law03_Word_ok db cU eI bt nL)
variable {R:Type}
variable {R:Type}
abbrev CM (R:Type):Type:=(Bool→Option R)→Option R
abbrev JP:List dh := []
abbrev JQ:List aY := []
def OO (fn:CM R):oC R JP JQ:=fun x y k=>fn (fun q0=>k (.bool q0) [])
def QC (fn:CM R):=aG JP JQ (OO fn)
section
variable (er:Ah R) (dX:zK R) (cW:vG R) (fN:eX R)
def QD:List (sS R) := [(20,true,(Mv er aC)),(17,true,(Mi dX aC)),(32,true,(Gy cW aC)),(21,true,(OL fN aC))]
def QE (k0:Bool→Option R):Option R :=
 er ([32,123,34,97,34,32,58,32,91,49,46,53,48,44,32,110,117,108,108,93,125,32]:af) (fun y1 y2 y3=>er ([123,34,97,34,58,49,44,34,97,34]:af) (fun y4 y5 y6=>bif (y2==0)then (bif (y3==0)then (dX (⟨y1.kind,⟨y1.num.au,y1.num.exp⟩,y1.text,y1.names,y1.items⟩:Json) (fun y7=>bif (y7==([123,34,97,34,58,91,49,46,53,44,110,117,108,108,93,125]:af))then (bif (y5==42)then (bif (y6==7)then (cW (⟨y1.kind,⟨y1.num.au,y1.num.exp⟩,y1.text,y1.names,y1.items⟩:Json) (fun y8=>bif y8 then (fN (⟨y1.kind,⟨y1.num.au,y1.num.exp⟩,y1.text,y1.names,y1.items⟩:Json) (⟨y1.kind,⟨y1.num.au,y1.num.exp⟩,y1.text,y1.names,y1.items⟩:Json) (fun y9=>bif y9 then (fN (⟨y1.kind,⟨y1.num.au,y1.num.exp⟩,y1.text,y1.names,y1.items⟩:Json) (⟨0,⟨0,0⟩,([]:af),([]:List af),([]:List Json)⟩:Json) (fun o5=>k0 (!o5)))else (k0 false)))else (k0 false)))else (k0 false))else (k0 false))else (k0 false)))else (k0 false))else (k0 false)))
theorem YZ:fC (R:=R) tt (QD er dX cW fN) AL false Tryz.f30 JP JQ (OO (QE er dX cW fN)):=fun x y k=>by kernel_rfl
end
theorem Wq:dy (R:=R) Tryz.prog (QD (R:=R) er dX cW fN) := .c (Ni R) <| .c (Nc R) <| .c (Fy R) <| .p (ON R _ (fo _)) <| .n
def ij:CM R:=fun  k0=>QE er dX cW fN  k0
theorem UH (R:Type):od Tryz.prog 30 (QC (ij (R:=R))):=bS TT mixed (Wq (R:=R)) rfl rfl rfl rfl dM (YZ er dX cW fN)
abbrev Ai (R:Type):Type:=Int→Int→(cC→Bool→Option R)→Option R
abbrev MA:List dh := [.leaf (.int .i64), .leaf (.int .i64)]
abbrev MB:List aY := []
def QF (fn:Ai R):oC R MA MB:=fun x y k=>fn x.1 x.2.1 (fun q0 q1=>k (.tuple [.agg [.int .i64 q0.au, .int .i64 q0.exp], .bool q1]) [])
def MC (fn:Ai R):=aG MA MB (QF fn)
abbrev CN (R:Type):Type:=Nat→Int→Int→cC→(Int→Int→cC→Option R)→(Int→Int→Bool→cC→Option R)→Option R
def xU:Hint := { live := [0,1,4],own := [],rows := [],cells := [],drop := [],out := [0,1,4,5] }
abbrev oU:Type:=Int×Int×cC
def A7:oU→St:=fun d=>⟨.int .i64 d.1 :: .int .i64 d.2.1::U 2 (.ptr 0 0::U 32 ([])), [.cells [.int .i64 d.2.2.au, .int .i64 d.2.2.exp]]⟩
def CO (K:Ex→St→Option R) (q0:Int) (q1:Int) (q2:cC):Option R:=K (.exit 0) ⟨.int .i64 q0 :: .int .i64 q1::U 2 (.ptr 0 0::U 32 ([])), [.cells [.int .i64 q2.au, .int .i64 q2.exp]]⟩
def CP (K:Ex→St→Option R) (q0:Int) (q1:Int) (q2:Bool) (q3:cC):Option R:=K (.ret) ⟨.int .i64 q0 :: .int .i64 q1::U 2 (.ptr 0 0 :: .bool q2::U 31 ([])), [.cells [.int .i64 q3.au, .int .i64 q3.exp]]⟩
abbrev tO:List dh := .leaf (.int .i64) :: .leaf (.int .i64)::PU 2 (.leaf (.ptr 0 0)::PU 32 ([]))
abbrev tP:List aY := [.cells [.int .i64, .int .i64]]
def KV (x:dh.bD tO) (y:aY.bD tP):Nat:=(Int.natAbs x.1+Int.natAbs x.2.1+cC.fu (⟨y.1.1,y.1.2.1⟩:cC)+64)
def UI (x:dh.bD tO) (y:aY.bD tP):oU:=(x.1,x.2.1,(⟨y.1.1,y.1.2.1⟩:cC))
def Ja (L:CN R):sI R tO tP:=fun x y K=>L (KV x y) x.1 x.2.1 (⟨y.1.1,y.1.2.1⟩:cC) (CO K) (CP K)
section
variable (cZ:CN R)
def xV (cb:Int→Int→cC→Option R) (x3:Int) (x4:Int) (x5:cC) (e0:Int→Int→cC→Option R) (e1:Int→Int→Bool→cC→Option R):Option R :=
 bif ((Int.tmod x3 10)==0)then (bif (decide (x4>(1099511627776:Int)))then (e1 (IntKind.i64.wrap (Int.tdiv x3 10)) x4 false (⟨0,0⟩:cC))else (cb (IntKind.i64.wrap (Int.tdiv x3 10)) (IntKind.i64.wrap (x4+1)) x5))else (e0 x3 x4 x5)
def KW (K:Ex→St→Option R) (rc:oU→Option R) (d:oU):Option R:=xV (fun z0 z1 z2=>rc (z0,z1,z2)) d.1 d.2.1 d.2.2 (CO K) (CP K)
def CQ:Nat→Option (Hint×cF R):=fun i=>match i with
 | 3=>some (xU,(cq tO tP (Ja cZ) gl))
 | _=>none
theorem PQ (K:Ex→St→Option R) (rc:St→Option R) (d:oU):roundOf tt (cz []) (CQ cZ) 0 ((aA (aQ Tryz.f117)).getD 0 .skip) xU (A7 d) rc K=KW K (fun d=>rc (A7 d)) d:=by kernel_rfl
def CR (x1:Int) (x2:Int) (k0:cC→Bool→Option R):Option R :=
 bif (x1==0)then (k0 (⟨0,0⟩:cC) true)else (cZ (Int.natAbs x1+Int.natAbs x2+cC.fu (⟨0,0⟩:cC)+64) x1 x2 (⟨0,0⟩:cC) (fun y6 y7 y8=>bif (decide (y6>(1000000000000000:Int)))then (k0 (⟨0,0⟩:cC) false)else (bif (decide (y6<(-1000000000000000:Int)))then (k0 (⟨0,0⟩:cC) false)else (bif (decide (y7>(9:Int)))then (k0 (⟨0,0⟩:cC) false)else (bif (decide (y7<(-9:Int)))then (k0 (⟨0,0⟩:cC) false)else (k0 (⟨y6,y7⟩:cC) true))))) (fun y9 o5 jf l9=>k0 l9 jf))
theorem ref01_Make_ok:fC (R:=R) tt [] (CQ cZ) false Tryz.f117 MA MB (QF (CR cZ)):=fun x y k=>by kernel_rfl
end
def cZ:CN R
 | 0,_,_,_,_,_=>none
 | n+1,eh,eB,fb,e0,e1=>xV (fun eh eB fb=>cZ n eh eB fb e0 e1) eh eB fb e0 e1
def KX (K:Ex→St→Option R) (n:Nat) (d:oU):Option R:=cZ n d.1 d.2.1 d.2.2 (CO K) (CP K)
theorem Tc (other:cF R) (ho:fZ tt (cz []) (CQ (R:=R) cZ) 0 ((aA (aQ Tryz.f117)).getD 0 .skip) xU other):fZ tt (cz []) (CQ (R:=R) cZ) 0 ((aA (aQ Tryz.f117)).getD 0 .skip) xU (cq tO tP (Ja (cZ)) other) :=
 cx (A:=KX) ho (dD A7 (KW) (KX) (fun _ _=>by kernel_rfl) (PQ cZ) (fun _ _ _=>by kernel_rfl)) KV UI (fun _ _=>by kernel_rfl) (fun _ _ _=>by kernel_rfl)
def cj:Ai R:=fun x1 x2 k0=>CR cZ x1 x2 k0
theorem UJ (R:Type):∀a∈aA (aQ Tryz.f117),gE tt (cz []) (CQ (R:=R) cZ) 0 a:=by
 refine eV 1 (by kernel_rfl) fun i hi => ?_
 match i,hi with
 | 0,_=>exact bT (by kernel_rfl) (Tc _ cQ)
 | n+1,hi=>omega
theorem Nj (R:Type):od Tryz.prog 117 (MC (cj (R:=R))):=bS TT mixed .n rfl rfl rfl rfl (UJ R) (ref01_Make_ok cZ)
abbrev xd (R:Type):Type:=cC→(Bool→Option R)→Option R
abbrev JR:List dh := [.agg [.int .i64, .int .i64]]
abbrev JS:List aY := []
def OP (fn:xd R):oC R JR JS:=fun x y k=>fn (⟨x.1.1,x.1.2.1⟩:cC) (fun q0=>k (.bool q0) [])
def JT (fn:xd R):=aG JR JS (OP fn)
section
variable (cj:Ai R)
def QG:List (sS R) := [(117,true,(MC cj aC))]
def EE (x1:cC) (k0:Bool→Option R):Option R :=
 cj x1.au x1.exp (fun y2 y3=>bif y3 then (k0 (y2.au==x1.au&&(y2.exp==x1.exp&&true)))else (k0 false))
theorem Y0:fC (R:=R) tt (QG cj) AL false Tryz.f81 JR JS (OP (EE cj)):=fun x y k=>by kernel_rfl
end
theorem Wr:dy (R:=R) Tryz.prog (QG (R:=R) cj) := .c (Nj R) <| .n
def bY:xd R:=fun x1 k0=>EE cj x1 k0
theorem KY (R:Type):od Tryz.prog 81 (JT (bY (R:=R))):=bS TT mixed (Wr (R:=R)) rfl rfl rfl rfl dM (Y0 cj)
abbrev CS (R:Type):Type:=af→Int→(Int→Option R)→Option R
abbrev OQ:List dh := [.leaf (.str), .leaf (.int .i64)]
abbrev OR:List aY := []
def Td (fn:CS R):oC R OQ OR:=fun x y k=>fn x.1 x.2.1 (fun q0=>k (.int .i64 q0) [])
def OS (fn:CS R):=aG OQ OR (Td fn)
abbrev CT (R:Type):Type:=Nat→af→Int→Int→Int→Int→Int→(Int→Int→Int→Option R)→(Int→Int→Int→Int→Option R)→Option R
def xW:Hint := { live := [0,1,6,7,8,9],own := [],rows := [],cells := [],drop := [],out := [4,6,7,8] }
abbrev oV:Type:=af×Int×Int×Int×Int×Int
def A8:oV→St:=fun d=>⟨.str d.1 :: .int .i64 d.2.1::U 4 (.int .i64 d.2.2.1 :: .int .i64 d.2.2.2.1 :: .int .i64 d.2.2.2.2.1 :: .int .i64 d.2.2.2.2.2::U 80 ([])), []⟩
def CU (K:Ex→St→Option R) (q0:Int) (q1:Int) (q2:Int):Option R:=K (.exit 1) ⟨U 6 (.int .i64 q0 :: .int .i64 q1 :: .int .i64 q2::U 81 ([])), []⟩
def CV (K:Ex→St→Option R) (q0:Int) (q1:Int) (q2:Int) (q3:Int):Option R:=K (.ret) ⟨U 4 (.int .i64 q0 :: .undef :: .int .i64 q1 :: .int .i64 q2 :: .int .i64 q3::U 81 ([])), []⟩
abbrev tQ:List dh := .leaf (.str) :: .leaf (.int .i64)::PU 4 (.leaf (.int .i64) :: .leaf (.int .i64) :: .leaf (.int .i64) :: .leaf (.int .i64)::PU 80 ([]))
abbrev tR:List aY := []
def KZ (x:dh.bD tQ) (y:aY.bD tR):Nat:=(List.length x.1+Int.natAbs x.2.1+Int.natAbs x.2.2.2.2.2.2.1+Int.natAbs x.2.2.2.2.2.2.2.1+Int.natAbs ((t8 x).1)+Int.natAbs ((t8 x).2.1)+64)
def UK (x:dh.bD tQ) (y:aY.bD tR):oV:=(x.1,x.2.1,x.2.2.2.2.2.2.1,x.2.2.2.2.2.2.2.1,(t8 x).1,(t8 x).2.1)
def Jb (L:CT R):sI R tQ tR:=fun x y K=>L (KZ x y) x.1 x.2.1 x.2.2.2.2.2.2.1 x.2.2.2.2.2.2.2.1 ((t8 x).1) ((t8 x).2.1) (CU K) (CV K)
section
variable (bL:CT R)
def mo (cb:af→Int→Int→Int→Int→Int→Option R) (NZ:af) (I8:Int) (Mf:Int) (o6:Int) (uJ:Int) (kN:Int) (e0:Int→Int→Int→Option R) (e1:Int→Int→Int→Int→Option R):Option R :=
 bif (decide (kN<Mf))then (bB (decide ((0:Int)≤(IntKind.i64.wrap (I8+kN)))&&decide ((IntKind.i64.wrap (I8+kN))<NZ.length)) (bif ((IntKind.u8.wrap ((BitVec.ofInt IntKind.u8.bits ((NZ.getD ((IntKind.i64.wrap (I8+kN)).toNat) 0).toNat:Int) &&& BitVec.ofInt IntKind.u8.bits 192).toNat:Int)) != 128)then (e1 0 Mf o6 uJ)else (bB (decide ((0:Int)≤(IntKind.i64.wrap (I8+kN)))&&decide ((IntKind.i64.wrap (I8+kN))<NZ.length)) (cb NZ I8 Mf o6 (IntKind.i64.wrap ((BitVec.ofInt IntKind.i64.bits (IntKind.i64.wrap (uJ*2 ^ (min 6 IntKind.i64.bits))) ||| BitVec.ofInt IntKind.i64.bits (IntKind.i64.wrap (IntKind.u8.wrap ((BitVec.ofInt IntKind.u8.bits ((NZ.getD ((IntKind.i64.wrap (I8+kN)).toNat) 0).toNat:Int) &&& BitVec.ofInt IntKind.u8.bits 63).toNat:Int)))).toNat:Int)) (IntKind.i64.wrap (kN+1))))))else (e0 Mf o6 uJ)
def K2 (K:Ex→St→Option R) (rc:oV→Option R) (d:oV):Option R:=mo (fun z0 z1 z2 z3 z4 z5=>rc (z0,z1,z2,z3,z4,z5)) d.1 d.2.1 d.2.2.1 d.2.2.2.1 d.2.2.2.2.1 d.2.2.2.2.2 (CU K) (CV K)
def Fa:Nat→Option (Hint×cF R):=fun i=>match i with
 | 23=>some (xW,(cq tQ tR (Jb bL) gl))
 | _=>none
theorem PR (K:Ex→St→Option R) (rc:St→Option R) (d:oV):roundOf tt (cz []) (Fa bL) 0 ((aA (aQ Tryz.f118)).getD 0 .skip) xW (A8 d) rc K=K2 K (fun d=>rc (A8 d)) d:=by kernel_rfl
def Jc (x1:af) (x2:Int) (k0:Int→Option R):Option R :=
 bB (decide ((0:Int)≤x2)&&decide (x2<x1.length)) (let j26:=fun (z9:Int) (uy:Int) (pW:Int)=>bif (decide ((IntKind.i64.wrap (x2+z9))>(x1.length:Int)))then (k0 0)else (bL (List.length x1+Int.natAbs x2+Int.natAbs z9+Int.natAbs uy+Int.natAbs pW+Int.natAbs 1+64) x1 x2 z9 uy pW 1 (fun NX Cw Qs=>bif (decide (Qs<Cw))then (k0 0)else (bif (decide (Qs>(1114111:Int)))then (k0 0)else (bif (decide (Qs≥(55296:Int)))then (bif (decide (Qs≤(57343:Int)))then (k0 0)else (k0 NX))else (k0 NX)))) (fun D7 y22 y23 y24=>k0 D7)); bif (decide (((x1.getD x2.toNat 0).toNat:Int)<(128:Int)))then (k0 1)else (let j8:=fun (z3:Bool)=>bif z3 then (j26 2 128 (IntKind.i64.wrap (IntKind.u8.wrap ((BitVec.ofInt IntKind.u8.bits ((x1.getD x2.toNat 0).toNat:Int) &&& BitVec.ofInt IntKind.u8.bits 31).toNat:Int))))else (bif (decide (((x1.getD x2.toNat 0).toNat:Int)≥(224:Int)))then (bif (decide (((x1.getD x2.toNat 0).toNat:Int)≤(239:Int)))then (j26 3 2048 (IntKind.i64.wrap (IntKind.u8.wrap ((BitVec.ofInt IntKind.u8.bits ((x1.getD x2.toNat 0).toNat:Int) &&& BitVec.ofInt IntKind.u8.bits 15).toNat:Int))))else (bif (decide (((x1.getD x2.toNat 0).toNat:Int)≥(240:Int)))then (bif (decide (((x1.getD x2.toNat 0).toNat:Int)≤(244:Int)))then (j26 4 65536 (IntKind.i64.wrap (IntKind.u8.wrap ((BitVec.ofInt IntKind.u8.bits ((x1.getD x2.toNat 0).toNat:Int) &&& BitVec.ofInt IntKind.u8.bits 7).toNat:Int))))else (k0 0))else (k0 0)))else (bif (decide (((x1.getD x2.toNat 0).toNat:Int)≥(240:Int)))then (bif (decide (((x1.getD x2.toNat 0).toNat:Int)≤(244:Int)))then (j26 4 65536 (IntKind.i64.wrap (IntKind.u8.wrap ((BitVec.ofInt IntKind.u8.bits ((x1.getD x2.toNat 0).toNat:Int) &&& BitVec.ofInt IntKind.u8.bits 7).toNat:Int))))else (k0 0))else (k0 0))); bif (decide (((x1.getD x2.toNat 0).toNat:Int)≥(194:Int)))then (j8 (decide (((x1.getD x2.toNat 0).toNat:Int)≤(223:Int))))else (j8 false)))
theorem ref02_one_ok:fC (R:=R) tt [] (Fa bL) false Tryz.f118 OQ OR (Td (Jc bL)):=fun x y k=>by kernel_rfl
end
def bL:CT R
 | 0,_,_,_,_,_,_,_,_=>none
 | n+1,eh,eB,fb,lZ,BR,BS,e0,e1=>mo (fun eh eB fb lZ BR BS=>bL n eh eB fb lZ BR BS e0 e1) eh eB fb lZ BR BS e0 e1
def K3 (K:Ex→St→Option R) (n:Nat) (d:oV):Option R:=bL n d.1 d.2.1 d.2.2.1 d.2.2.2.1 d.2.2.2.2.1 d.2.2.2.2.2 (CU K) (CV K)
theorem Te (other:cF R) (ho:fZ tt (cz []) (Fa (R:=R) bL) 0 ((aA (aQ Tryz.f118)).getD 0 .skip) xW other):fZ tt (cz []) (Fa (R:=R) bL) 0 ((aA (aQ Tryz.f118)).getD 0 .skip) xW (cq tQ tR (Jb (bL)) other) :=
 cx (A:=K3) ho (dD A8 (K2) (K3) (fun _ _=>by kernel_rfl) (PR bL) (fun _ _ _=>by kernel_rfl)) KZ UK (fun _ _=>by kernel_rfl) (fun _ _ _=>by kernel_rfl)
def dP:CS R:=fun x1 x2 k0=>Jc bL x1 x2 k0
theorem Ws (R:Type):∀a∈aA (aQ Tryz.f118),gE tt (cz []) (Fa (R:=R) bL) 0 a:=by
 refine eV 1 (by kernel_rfl) fun i hi => ?_
 match i,hi with
 | 0,_=>exact bT (by kernel_rfl) (Te _ cQ)
 | n+1,hi=>omega
theorem OT (R:Type):od Tryz.prog 118 (OS (dP (R:=R))):=bS TT mixed .n rfl rfl rfl rfl (Ws R) (ref02_one_ok bL)
variable {R:Type}
abbrev xe (R:Type):Type:=af→(Bool→Option R)→Option R
abbrev JU:List dh := [.leaf (.str)]
abbrev JV:List aY := []
def OU (fn:xe R):oC R JU JV:=fun x y k=>fn x.1 (fun q0=>k (.bool q0) [])
def JW (fn:xe R):=aG JU JV (OU fn)
abbrev A9 (R:Type):Type:=Nat→af→Int→(Option R)→(Bool→Option R)→Option R
def wu:Hint := { live := [0,3],own := [],rows := [],cells := [],drop := [],out := [2] }
abbrev nu:Type:=af×Int
def yY:nu→St:=fun d=>⟨.str d.1::U 2 (.int .i64 d.2::U 13 ([])), []⟩
def Ba (K:Ex→St→Option R):Option R:=K (.exit 0) ⟨U 17 ([]), []⟩
def Bb (K:Ex→St→Option R) (q0:Bool):Option R:=K (.ret) ⟨U 2 (.bool q0::U 14 ([])), []⟩
abbrev rC:List dh := .leaf (.str)::PU 2 (.leaf (.int .i64)::PU 13 ([]))
abbrev rD:List aY := []
def Jd (x:dh.bD rC) (y:aY.bD rD):Nat:=(List.length x.1+Int.natAbs x.2.2.2.1+64)
def Tf (x:dh.bD rC) (y:aY.bD rD):nu:=(x.1,x.2.2.2.1)
def HG (L:A9 R):sI R rC rD:=fun x y K=>L (Jd x y) x.1 x.2.2.2.1 (Ba K) (Bb K)
section
variable (dP:CS R) (cH:A9 R)
def vJ:List (sS R) := [(118,true,(OS dP aC))]
def wv (cb:af→Int→Option R) (x2:af) (x3:Int) (e0:Option R) (e1:Bool→Option R):Option R :=
 bif (decide (x3<(x2.length:Int)))then (dP x2 x3 (fun y4=>bif (y4==0)then (e1 false)else (cb x2 (IntKind.i64.wrap (x3+y4)))))else (e0)
def Je (K:Ex→St→Option R) (rc:nu→Option R) (d:nu):Option R:=wv dP (fun z0 z1=>rc (z0,z1)) d.1 d.2 (Ba K) (Bb K)
def Aj:Nat→Option (Hint×cF R):=fun i=>match i with
 | 2=>some (wu,(cq rC rD (HG cH) gl))
 | _=>none
theorem OV (K:Ex→St→Option R) (rc:St→Option R) (d:nu):roundOf tt (cz (vJ dP)) (Aj cH) 0 ((aA (aQ Tryz.f82)).getD 0 .skip) wu (yY d) rc K=Je dP K (fun d=>rc (yY d)) d:=by kernel_rfl
def EF (x1:af) (k0:Bool→Option R):Option R :=
 cH (List.length x1+Int.natAbs 0+64) x1 0 (k0 true) (fun y5=>k0 y5)
theorem Y1:fC (R:=R) tt (vJ dP) (Aj cH) false Tryz.f82 JU JV (OU (EF cH)):=fun x y k=>by kernel_rfl
end
theorem Wu:dy (R:=R) Tryz.prog (vJ (R:=R) dP) := .c (OT R) <| .n
def cH:A9 R
 | 0,_,_,_,_=>none
 | n+1,eh,eB,e0,e1=>wv dP (fun eh eB=>cH n eh eB e0 e1) eh eB e0 e1
def Jf (K:Ex→St→Option R) (n:Nat) (d:nu):Option R:=cH n d.1 d.2 (Ba K) (Bb K)
theorem RA (other:cF R) (ho:fZ tt (cz (vJ (R:=R) dP)) (Aj (R:=R) cH) 0 ((aA (aQ Tryz.f82)).getD 0 .skip) wu other):fZ tt (cz (vJ (R:=R) dP)) (Aj (R:=R) cH) 0 ((aA (aQ Tryz.f82)).getD 0 .skip) wu (cq rC rD (HG (cH)) other) :=
 cx (A:=Jf) ho (dD yY (Je dP) (Jf) (fun _ _=>by kernel_rfl) (OV dP cH) (fun _ _ _=>by kernel_rfl)) Jd Tf (fun _ _=>by kernel_rfl) (fun _ _ _=>by kernel_rfl)
def bU:xe R:=fun x1 k0=>EF cH x1 k0
theorem Tg (R:Type):∀a∈aA (aQ Tryz.f82),gE tt (cz (vJ (R:=R) dP)) (Aj (R:=R) cH) 0 a:=by
 refine eV 1 (by kernel_rfl) fun i hi => ?_
 match i,hi with
 | 0,_=>exact bT (by kernel_rfl) (RA _ cQ)
 | n+1,hi=>omega
theorem K4 (R:Type):od Tryz.prog 82 (JW (bU (R:=R))):=bS TT mixed (Wu (R:=R)) rfl rfl rfl rfl (Tg R) (Y1 dP cH)
abbrev CW (R:Type):Type:=(List af)→af→(Bool→Option R)→Option R
abbrev OW:List dh := [.leaf (.sl .str), .leaf (.str)]
abbrev OX:List aY := []
def Th (fn:CW R):oC R OW OX:=fun x y k=>fn x.1 x.2.1 (fun q0=>k (.bool q0) [])
def OY (fn:CW R):=aG OW OX (Th fn)
abbrev Eg (R:Type):Type:=Nat→(List af)→af→Int→(Option R)→(Bool→Option R)→Option R
def Ay:Hint := { live := [0,1,5],own := [],rows := [],cells := [],drop := [],out := [4] }
abbrev qz:Type:=(List af)×af×Int
def CX:qz→St:=fun d=>⟨.sl .str d.1 .no :: .str d.2.1::U 3 (.int .i64 d.2.2::U 12 ([])), []⟩
def Eh (K:Ex→St→Option R):Option R:=K (.exit 0) ⟨U 18 ([]), []⟩
def Ei (K:Ex→St→Option R) (q0:Bool):Option R:=K (.ret) ⟨U 4 (.bool q0::U 13 ([])), []⟩
abbrev vp:List dh := .leaf (.sl .str) :: .leaf (.str)::PU 3 (.leaf (.int .i64)::PU 12 ([]))
abbrev vq:List aY := []
def Nk (x:dh.bD vp) (y:aY.bD vq):Nat:=(List.length x.1+List.length x.2.1+Int.natAbs x.2.2.2.2.2.1+64)
def Wv (x:dh.bD vp) (y:aY.bD vq):qz:=(x.1,x.2.1,x.2.2.2.2.2.1)
def K5 (L:Eg R):sI R vp vq:=fun x y K=>L (Nk x y) x.1 x.2.1 x.2.2.2.2.2.1 (Eh K) (Ei K)
section
variable (ei:Eg R)
def Az (cb:(List af)→af→Int→Option R) (x3:List af) (x4:af) (x5:Int) (e0:Option R) (e1:Bool→Option R):Option R :=
 bif (decide (x5<(x3.length:Int)))then (bB (decide ((0:Int)≤x5)&&decide (x5<x3.length)) (bif ((x3.getD x5.toNat (Ty.br .str))==x4)then (e1 true)else (cb x3 x4 (IntKind.i64.wrap (x5+1)))))else (e0)
def Nl (K:Ex→St→Option R) (rc:qz→Option R) (d:qz):Option R:=Az (fun z0 z1 z2=>rc (z0,z1,z2)) d.1 d.2.1 d.2.2 (Eh K) (Ei K)
def Fb:Nat→Option (Hint×cF R):=fun i=>match i with
 | 2=>some (Ay,(cq vp vq (K5 ei) gl))
 | _=>none
theorem RB (K:Ex→St→Option R) (rc:St→Option R) (d:qz):roundOf tt (cz []) (Fb ei) 0 ((aA (aQ Tryz.f83)).getD 0 .skip) Ay (CX d) rc K=Nl K (fun d=>rc (CX d)) d:=by kernel_rfl
def VP (x1:List af) (x2:af) (k0:Bool→Option R):Option R :=
 ei (List.length x1+List.length x2+Int.natAbs 0+64) x1 x2 0 (k0 false) (fun y6=>k0 y6)
theorem ref04_has_ok:fC (R:=R) tt [] (Fb ei) false Tryz.f83 OW OX (Th (VP ei)):=fun x y k=>by kernel_rfl
end
def ei:Eg R
 | 0,_,_,_,_,_=>none
 | n+1,eh,eB,fb,e0,e1=>Az (fun eh eB fb=>ei n eh eB fb e0 e1) eh eB fb e0 e1
def Nn (K:Ex→St→Option R) (n:Nat) (d:qz):Option R:=ei n d.1 d.2.1 d.2.2 (Eh K) (Ei K)
theorem UL (other:cF R) (ho:fZ tt (cz []) (Fb (R:=R) ei) 0 ((aA (aQ Tryz.f83)).getD 0 .skip) Ay other):fZ tt (cz []) (Fb (R:=R) ei) 0 ((aA (aQ Tryz.f83)).getD 0 .skip) Ay (cq vp vq (K5 (ei)) other) :=
 cx (A:=Nn) ho (dD CX (Nl) (Nn) (fun _ _=>by kernel_rfl) (RB ei) (fun _ _ _=>by kernel_rfl)) Nk Wv (fun _ _=>by kernel_rfl) (fun _ _ _=>by kernel_rfl)
def cP:CW R:=fun x1 x2 k0=>VP ei x1 x2 k0
theorem Ww (R:Type):∀a∈aA (aQ Tryz.f83),gE tt (cz []) (Fb (R:=R) ei) 0 a:=by
 refine eV 1 (by kernel_rfl) fun i hi => ?_
 match i,hi with
 | 0,_=>exact bT (by kernel_rfl) (UL _ cQ)
 | n+1,hi=>omega
theorem OZ (R:Type):od Tryz.prog 83 (OY (cP (R:=R))):=bS TT mixed .n rfl rfl rfl rfl (Ww R) (ref04_has_ok ei)
abbrev eR (R:Type):Type:=Json→Int→(Bool→Option R)→Option R
abbrev mM:List dh := [.agg [.int .i64, .int .i64, .int .i64, .str, .sl .str, .sl .json], .leaf (.int .i64)]
abbrev mN:List aY := []
def hU (fn:eR R):oC R mM mN:=fun x y k=>fn (⟨x.1.1,⟨x.1.2.1,x.1.2.2.1⟩,x.1.2.2.2.1,x.1.2.2.2.2.1,x.1.2.2.2.2.2.1⟩:Json) x.2.1 (fun q0=>k (.bool q0) [])
def QH (fn:eR R):=aG mM mN (hU fn)
abbrev yZ (R:Type):Type:=Nat→Int→Int→Json→(Int→Json→Option R)→(Int→Bool→Json→Option R)→Option R
abbrev za (R:Type):Type:=Nat→Int→Int→Json→(Option R)→(Bool→Option R)→Option R
def uN:Hint := { live := [1,2,5],own := [],rows := [],cells := [],drop := [],out := [1,2,4] }
abbrev mq:Type:=Int×Int×Json
def xf:mq→St:=fun d=>⟨.undef :: .int .i64 d.1 :: .ptr 0 0::U 2 (.int .i64 d.2.1::U 126 ([])), [.cells [.int .i64 d.2.2.kind, .int .i64 d.2.2.num.au, .int .i64 d.2.2.num.exp, .str d.2.2.text, .sl .str d.2.2.names .no, .sl .json d.2.2.items .no]]⟩
def zc (K:Ex→St→Option R) (q0:Int) (q1:Json):Option R:=K (.exit 1) ⟨.undef :: .int .i64 q0 :: .ptr 0 0::U 129 ([]), [.cells [.int .i64 q1.kind, .int .i64 q1.num.au, .int .i64 q1.num.exp, .str q1.text, .sl .str q1.names .no, .sl .json q1.items .no]]⟩
def zd (K:Ex→St→Option R) (q0:Int) (q1:Bool) (q2:Json):Option R:=K (.ret) ⟨.undef :: .int .i64 q0 :: .ptr 0 0 :: .undef :: .bool q1::U 127 ([]), [.cells [.int .i64 q2.kind, .int .i64 q2.num.au, .int .i64 q2.num.exp, .str q2.text, .sl .str q2.names .no, .sl .json q2.items .no]]⟩
abbrev pB:List dh := .leaf (.undef) :: .leaf (.int .i64) :: .leaf (.ptr 0 0)::PU 2 (.leaf (.int .i64)::PU 126 ([]))
abbrev pC:List aY := [.cells [.int .i64, .int .i64, .int .i64, .str, .sl .str, .sl .json]]
def HH (x:dh.bD pB) (y:aY.bD pC):Nat:=(Int.natAbs x.2.1+Int.natAbs x.2.2.2.2.2.1+Json.fu (⟨y.1.1,⟨y.1.2.1,y.1.2.2.1⟩,y.1.2.2.2.1,y.1.2.2.2.2.1,y.1.2.2.2.2.2.1⟩:Json)+64)
def RC (x:dh.bD pB) (y:aY.bD pC):mq:=(x.2.1,x.2.2.2.2.2.1,(⟨y.1.1,⟨y.1.2.1,y.1.2.2.1⟩,y.1.2.2.2.1,y.1.2.2.2.2.1,y.1.2.2.2.2.2.1⟩:Json))
def Gd (L:yZ R):sI R pB pC:=fun x y K=>L (HH x y) x.2.1 x.2.2.2.2.2.1 (⟨y.1.1,⟨y.1.2.1,y.1.2.2.1⟩,y.1.2.2.2.1,y.1.2.2.2.2.1,y.1.2.2.2.2.2.1⟩:Json) (zc K) (zd K)
def uO:Hint := { live := [1,2,8],own := [],rows := [],cells := [],drop := [],out := [4] }
abbrev mr:Type:=Int×Int×Json
def xg:mr→St:=fun d=>⟨.undef :: .int .i64 d.1 :: .ptr 0 0::U 5 (.int .i64 d.2.1::U 123 ([])), [.cells [.int .i64 d.2.2.kind, .int .i64 d.2.2.num.au, .int .i64 d.2.2.num.exp, .str d.2.2.text, .sl .str d.2.2.names .no, .sl .json d.2.2.items .no]]⟩
def ze (K:Ex→St→Option R):Option R:=K (.exit 3) ⟨U 132 ([]), []⟩
def zf (K:Ex→St→Option R) (q0:Bool):Option R:=K (.ret) ⟨U 4 (.bool q0::U 127 ([])), []⟩
abbrev pD:List dh := .leaf (.undef) :: .leaf (.int .i64) :: .leaf (.ptr 0 0)::PU 5 (.leaf (.int .i64)::PU 123 ([]))
abbrev pE:List aY := [.cells [.int .i64, .int .i64, .int .i64, .str, .sl .str, .sl .json]]
def HI (x:dh.bD pD) (y:aY.bD pE):Nat:=(Int.natAbs x.2.1+Int.natAbs ((t8 x).1)+Json.fu (⟨y.1.1,⟨y.1.2.1,y.1.2.2.1⟩,y.1.2.2.2.1,y.1.2.2.2.2.1,y.1.2.2.2.2.2.1⟩:Json)+64)
def RD (x:dh.bD pD) (y:aY.bD pE):mr:=(x.2.1,(t8 x).1,(⟨y.1.1,⟨y.1.2.1,y.1.2.2.1⟩,y.1.2.2.2.1,y.1.2.2.2.2.1,y.1.2.2.2.2.2.1⟩:Json))
def Ge (L:za R):sI R pD pE:=fun x y K=>L (HI x y) x.2.1 ((t8 x).1) (⟨y.1.1,⟨y.1.2.1,y.1.2.2.1⟩,y.1.2.2.2.1,y.1.2.2.2.2.1,y.1.2.2.2.2.2.1⟩:Json) (ze K) (zf K)
section
variable (bU:xe R) (bY:xd R) (cP:CW R) (aL:eR R) (bV:yZ R) (bK:za R)
def mO:List (sS R) := [(82,true,(JW bU aC)),(81,true,(JT bY aC)),(83,true,(OY cP aC)),(57,true,(aG mM mN (hU aL) aC))]
def uP (cb:Int→Int→Json→Option R) (x7:Int) (x8:Int) (x9:Json) (e0:Int→Json→Option R) (e1:Int→Bool→Json→Option R):Option R :=
 bif (decide (x8<(x9.names.length:Int)))then (bB (decide ((0:Int)≤x8)&&decide (x8<x9.names.length)) (bU (x9.names.getD x8.toNat (Ty.br .str)) (fun o5=>bB (decide ((0:Int)≤x8)&&decide (x8≤x9.names.length)) (bB (decide ((0:Int)≤x8)) (bB (decide ((0:Int)≤x8)&&decide (x8<x9.names.length)) (cP ((x9.names.drop 0).take (x8.toNat - 0)) (x9.names.getD x8.toNat (Ty.br .str)) (fun jf=>bif (!o5)then (e1 x7 false (⟨x9.kind,⟨x9.num.au,x9.num.exp⟩,x9.text,x9.names,x9.items⟩:Json))else (bif jf then (e1 x7 false (⟨x9.kind,⟨x9.num.au,x9.num.exp⟩,x9.text,x9.names,x9.items⟩:Json))else (cb x7 (IntKind.i64.wrap (x8+1)) (⟨x9.kind,⟨x9.num.au,x9.num.exp⟩,x9.text,x9.names,x9.items⟩:Json))))))))))else (e0 x7 (⟨x9.kind,⟨x9.num.au,x9.num.exp⟩,x9.text,x9.names,x9.items⟩:Json))
def HJ (K:Ex→St→Option R) (rc:mq→Option R) (d:mq):Option R:=uP bU cP (fun z0 z1 z2=>rc (z0,z1,z2)) d.1 d.2.1 d.2.2 (zc K) (zd K)
def uQ (cb:Int→Int→Json→Option R) (ZT:Int) (x22:Int) (Mk:Json) (e0:Option R) (e1:Bool→Option R):Option R :=
 bif (decide (x22<(Mk.items.length:Int)))then (bB (decide ((0:Int)≤x22)&&decide (x22<Mk.items.length)) (aL (⟨(Mk.items.getD x22.toNat (Ty.br .json)).kind,⟨(Mk.items.getD x22.toNat (Ty.br .json)).num.au,(Mk.items.getD x22.toNat (Ty.br .json)).num.exp⟩,(Mk.items.getD x22.toNat (Ty.br .json)).text,(Mk.items.getD x22.toNat (Ty.br .json)).names,(Mk.items.getD x22.toNat (Ty.br .json)).items⟩:Json) (IntKind.i64.wrap (ZT+1)) (fun y24=>bif (!y24)then (e1 false)else (cb ZT (IntKind.i64.wrap (x22+1)) (⟨Mk.kind,⟨Mk.num.au,Mk.num.exp⟩,Mk.text,Mk.names,Mk.items⟩:Json)))))else (e0)
def HK (K:Ex→St→Option R) (rc:mr→Option R) (d:mr):Option R:=uQ aL (fun z0 z1 z2=>rc (z0,z1,z2)) d.1 d.2.1 d.2.2 (ze K) (zf K)
def oK:Nat→Option (Hint×cF R):=fun i=>match i with
 | 17=>some (uN,(cq pB pC (Gd bV) gl))
 | 25=>some (uO,(cq pD pE (Ge bK) gl))
 | _=>none
theorem NM (K:Ex→St→Option R) (rc:St→Option R) (d:mq):roundOf tt (cz (mO bU bY cP aL)) (oK bV bK) 0 ((aA (aQ Tryz.f57)).getD 0 .skip) uN (xf d) rc K=HJ bU cP K (fun d=>rc (xf d)) d:=by kernel_rfl
theorem NN (K:Ex→St→Option R) (rc:St→Option R) (d:mr):roundOf tt (cz (mO bU bY cP aL)) (oK bV bK) 0 ((aA (aQ Tryz.f57)).getD 1 .skip) uO (xg d) rc K=HK aL K (fun d=>rc (xg d)) d:=by kernel_rfl
def QI (x1:Json) (x2:Int) (k0:Bool→Option R):Option R :=
 let Xh:=let j26:=fun (Xd:Int) (z20:Json)=>bK (Int.natAbs Xd+Int.natAbs 0+Json.fu (⟨z20.kind,⟨z20.num.au,z20.num.exp⟩,z20.text,z20.names,z20.items⟩:Json)+64) Xd 0 (⟨z20.kind,⟨z20.num.au,z20.num.exp⟩,z20.text,z20.names,z20.items⟩:Json) (k0 true) (fun Kg=>k0 Kg); let j18:=fun (z4:Bool)=>bif z4 then (k0 true)else (bif (x1.kind==4)then (bY x1.num (fun y5=>k0 y5))else (bif (x1.kind==5)then (bU x1.text (fun y6=>k0 y6))else (bif (x1.kind==7)then (bif ((x1.names.length:Int) != (x1.items.length:Int))then (k0 false)else (bV (Int.natAbs x2+Int.natAbs 0+Json.fu (⟨x1.kind,⟨x1.num.au,x1.num.exp⟩,x1.text,x1.names,x1.items⟩:Json)+64) x2 0 (⟨x1.kind,⟨x1.num.au,x1.num.exp⟩,x1.text,x1.names,x1.items⟩:Json) (fun DN xy=>j26 DN (⟨xy.kind,⟨xy.num.au,xy.num.exp⟩,xy.text,xy.names,xy.items⟩:Json)) (fun yI Fp KD=>k0 Fp)))else (bif (x1.kind==6)then (j26 x2 (⟨x1.kind,⟨x1.num.au,x1.num.exp⟩,x1.text,x1.names,x1.items⟩:Json))else (k0 false))))); bif (x1.kind==1)then (j18 (x1.kind==1))else (bif (x1.kind==2)then (j18 (x1.kind==2))else (j18 (x1.kind==3))); bif (decide (x2>(16:Int)))then (k0 false)else (bif (x1.kind != 4)then (bif (!(x1.num.au==0&&(x1.num.exp==0&&true)))then (k0 false)else (bif (x1.kind != 5)then (bif (!(x1.text==([]:af)))then (k0 false)else (bif (x1.kind != 7)then (bif (decide ((x1.names.length:Int)>(0:Int)))then (k0 false)else (bif (x1.kind != 7)then (bif (x1.kind != 6)then (bif (decide ((x1.items.length:Int)>(0:Int)))then (k0 false)else (Xh))else (Xh))else (Xh)))else (bif (x1.kind != 7)then (bif (x1.kind != 6)then (bif (decide ((x1.items.length:Int)>(0:Int)))then (k0 false)else (Xh))else (Xh))else (Xh))))else (bif (x1.kind != 7)then (bif (decide ((x1.names.length:Int)>(0:Int)))then (k0 false)else (bif (x1.kind != 7)then (bif (x1.kind != 6)then (bif (decide ((x1.items.length:Int)>(0:Int)))then (k0 false)else (Xh))else (Xh))else (Xh)))else (bif (x1.kind != 7)then (bif (x1.kind != 6)then (bif (decide ((x1.items.length:Int)>(0:Int)))then (k0 false)else (Xh))else (Xh))else (Xh)))))else (bif (x1.kind != 5)then (bif (!(x1.text==([]:af)))then (k0 false)else (bif (x1.kind != 7)then (bif (decide ((x1.names.length:Int)>(0:Int)))then (k0 false)else (bif (x1.kind != 7)then (bif (x1.kind != 6)then (bif (decide ((x1.items.length:Int)>(0:Int)))then (k0 false)else (Xh))else (Xh))else (Xh)))else (bif (x1.kind != 7)then (bif (x1.kind != 6)then (bif (decide ((x1.items.length:Int)>(0:Int)))then (k0 false)else (Xh))else (Xh))else (Xh))))else (bif (x1.kind != 7)then (bif (decide ((x1.names.length:Int)>(0:Int)))then (k0 false)else (bif (x1.kind != 7)then (bif (x1.kind != 6)then (bif (decide ((x1.items.length:Int)>(0:Int)))then (k0 false)else (Xh))else (Xh))else (Xh)))else (bif (x1.kind != 7)then (bif (x1.kind != 6)then (bif (decide ((x1.items.length:Int)>(0:Int)))then (k0 false)else (Xh))else (Xh))else (Xh)))))
theorem Y2:fC (R:=R) tt (mO bU bY cP aL) (oK bV bK) false Tryz.f57 mM mN (hU (QI bU bY bV bK)):=fun x y k=>by kernel_rfl
end
theorem Wx (aL:eR R) (vu:bb.Spec.Ok Tryz.prog 57 (aG mM mN (hU aL) aC)):dy (R:=R) Tryz.prog (mO (R:=R) bU bY cP aL) := .c (K4 R) <| .c (KY R) <| .c (OZ R) <| .p vu <| .n
def bV:yZ R
 | 0,_,_,_,_,_=>none
 | n+1,eh,eB,fb,e0,e1=>uP bU cP (fun eh eB fb=>bV n eh eB fb e0 e1) eh eB fb e0 e1
def HL (K:Ex→St→Option R) (n:Nat) (d:mq):Option R:=bV n d.1 d.2.1 d.2.2 (zc K) (zd K)
def bK (aL:eR R):za R
 | 0,_,_,_,_,_=>none
 | n+1,eh,eB,fb,e0,e1=>uQ aL (fun eh eB fb=>bK aL n eh eB fb e0 e1) eh eB fb e0 e1
def HM (aL:eR R) (K:Ex→St→Option R) (n:Nat) (d:mr):Option R:=bK aL n d.1 d.2.1 d.2.2 (ze K) (zf K)
theorem PS (aL:eR R) (other:cF R) (ho:fZ tt (cz (mO (R:=R) bU bY cP aL)) (oK (R:=R) bV (bK aL)) 0 ((aA (aQ Tryz.f57)).getD 0 .skip) uN other):fZ tt (cz (mO (R:=R) bU bY cP aL)) (oK (R:=R) bV (bK aL)) 0 ((aA (aQ Tryz.f57)).getD 0 .skip) uN (cq pB pC (Gd (bV)) other) :=
 cx (A:=HL) ho (dD xf (HJ bU cP) (HL) (fun _ _=>by kernel_rfl) (NM bU bY cP aL bV (bK aL)) (fun _ _ _=>by kernel_rfl)) HH RC (fun _ _=>by kernel_rfl) (fun _ _ _=>by kernel_rfl)
theorem PT (aL:eR R) (other:cF R) (ho:fZ tt (cz (mO (R:=R) bU bY cP aL)) (oK (R:=R) bV (bK aL)) 0 ((aA (aQ Tryz.f57)).getD 1 .skip) uO other):fZ tt (cz (mO (R:=R) bU bY cP aL)) (oK (R:=R) bV (bK aL)) 0 ((aA (aQ Tryz.f57)).getD 1 .skip) uO (cq pD pE (Ge (bK aL)) other) :=
 cx (A:=HM aL) ho (dD xg (HK aL) (HM aL) (fun _ _=>by kernel_rfl) (NN bU bY cP aL bV (bK aL)) (fun _ _ _=>by kernel_rfl)) HI RD (fun _ _=>by kernel_rfl) (fun _ _ _=>by kernel_rfl)
def JX (aL:eR R):eR R:=fun x1 x2 k0=>QI bU bY bV (bK aL) x1 x2 k0
theorem Ti (R:Type) (aL:eR R) (vu:bb.Spec.Ok Tryz.prog 57 (aG mM mN (hU aL) aC)):∀a∈aA (aQ Tryz.f57),gE tt (cz (mO (R:=R) bU bY cP aL)) (oK (R:=R) bV (bK aL)) 0 a:=by
 refine eV 2 (by kernel_rfl) fun i hi => ?_
 match i,hi with
 | 0,_=>exact bT (by kernel_rfl) (PS aL _ cQ)
 | 1,_=>exact bT (by kernel_rfl) (PT aL _ cQ)
 | n+2,hi=>omega
theorem Tj (R:Type) (aL:eR R) (vu:bb.Spec.Ok Tryz.prog 57 (aG mM mN (hU aL) aC)):od Tryz.prog 57 (QH (JX aL)):=bS TT mixed (Wx aL vu) rfl rfl rfl rfl (Ti R aL vu) (Y2 bU bY cP aL bV (bK aL))
def fA:Nat→eR R
 | 0,_,_,_=>none
 | n+1,eh,eB,k0'=>JX (fA n) eh eB k0'
theorem ref04_right_N_succ (n:Nat):fA (R:=R) (n+1)=JX (fA n):=by kernel_rfl
theorem UM (R:Type):∀n,bb.Spec.Ok Tryz.prog 57 (aG mM mN (hU (fA (R:=R) n)) aC) :=
 mW (run:=fun n=>hU (fA (R:=R) n)) (fun x y k=>by kernel_rfl) fun n hyp=>Tj R (fA n) hyp aC (fo _)
def oL:eR R:=fun x1 x2 k0=>fA (Json.depth x1+2) x1 x2 k0
theorem UN (R:Type):hU (R:=R) oL=fun x y k=>hU (fA (Json.depth (⟨x.1.1,⟨x.1.2.1,x.1.2.2.1⟩,x.1.2.2.2.1,x.1.2.2.2.2.1,x.1.2.2.2.2.2.1⟩:Json)+2)) x y k:=by kernel_rfl
theorem UO (R:Type) (other:bb.Spec R) (ho:bb.Spec.Ok Tryz.prog 57 other):bb.Spec.Ok Tryz.prog 57 (aG mM mN (hU oL) other) :=
 rP (vE (run:=fun n=>hU (fA (R:=R) n)) (fun x y=>(Json.depth (⟨x.1.1,⟨x.1.2.1,x.1.2.2.1⟩,x.1.2.2.2.1,x.1.2.2.2.2.1,x.1.2.2.2.2.2.1⟩:Json)+2)) ho (UM R)) (UN R)
abbrev xh (R:Type):Type:=Json→(Bool→Option R)→Option R
abbrev JY:List dh := [.agg [.int .i64, .int .i64, .int .i64, .str, .sl .str, .sl .json]]
abbrev JZ:List aY := []
def O0 (fn:xh R):oC R JY JZ:=fun x y k=>fn (⟨x.1.1,⟨x.1.2.1,x.1.2.2.1⟩,x.1.2.2.2.1,x.1.2.2.2.2.1,x.1.2.2.2.2.2.1⟩:Json) (fun q0=>k (.bool q0) [])
def J0 (fn:xh R):=aG JY JZ (O0 fn)
section
variable (oL:eR R)
def QJ:List (sS R) := [(57,true,(QH oL aC))]
def QK (x1:Json) (k0:Bool→Option R):Option R :=
 oL (⟨x1.kind,⟨x1.num.au,x1.num.exp⟩,x1.text,x1.names,x1.items⟩:Json) 1 (fun y2=>k0 y2)
theorem Y3:fC (R:=R) tt (QJ oL) AL false Tryz.f33 JY JZ (O0 (QK oL)):=fun x y k=>by kernel_rfl
end
theorem Wy:dy (R:=R) Tryz.prog (QJ (R:=R) oL) := .p (UO R _ (fo _)) <| .n
def dT:xh R:=fun x1 k0=>QK oL x1 k0
theorem K6 (R:Type):od Tryz.prog 33 (J0 (dT (R:=R))):=bS TT mixed (Wy (R:=R)) rfl rfl rfl rfl dM (Y3 oL)
abbrev kO (R:Type):Type:=Int→(af→Option R)→Option R
abbrev rE:List dh := [.leaf (.int .i64)]
abbrev rF:List aY := []
def jR (fn:kO R):oC R rE rF:=fun x y k=>fn x.1 (fun q0=>k (.str q0) [])
def Tk (fn:kO R):=aG rE rF (jR fn)
section
variable (fI:kO R)
def Tl:List (sS R) := [(114,true,(aG rE rF (jR fI) aC))]
def GQ (x1:Int) (k0:af→Option R):Option R :=
 bif (decide (x1≥(10:Int)))then (fI (IntKind.i64.wrap (Int.tdiv x1 10)) (fun y2=>bB (decide (y2.length+(List.map (fun n:Int=>UInt8.ofNat n.toNat) ([(IntKind.u8.wrap (IntKind.i64.wrap (48+(Int.tmod x1 10))))]:List Int):af).length≤9223372036854775807)) (k0 (y2++(List.map (fun n:Int=>UInt8.ofNat n.toNat) ([(IntKind.u8.wrap (IntKind.i64.wrap (48+(Int.tmod x1 10))))]:List Int):af)))))else (k0 (List.map (fun n:Int=>UInt8.ofNat n.toNat) ([(IntKind.u8.wrap (IntKind.i64.wrap (48+(Int.tmod x1 10))))]:List Int):af))
theorem ref01_text_ok:fC (R:=R) tt (Tl fI) AL false Tryz.f114 rE rF (jR (GQ fI)):=fun x y k=>by kernel_rfl
end
theorem Y4 (fI:kO R) (HN:bb.Spec.Ok Tryz.prog 114 (aG rE rF (jR fI) aC)):dy (R:=R) Tryz.prog (Tl (R:=R) fI) := .p HN <| .n
def MD (fI:kO R):kO R:=fun x1 k0=>GQ fI x1 k0
theorem UP (R:Type) (fI:kO R) (HN:bb.Spec.Ok Tryz.prog 114 (aG rE rF (jR fI) aC)):od Tryz.prog 114 (Tk (MD fI)):=bS TT mixed (Y4 fI HN) rfl rfl rfl rfl dM (ref01_text_ok fI)
def jv:Nat→kO R
 | 0,_,_=>none
 | n+1,eh,k0'=>MD (jv n) eh k0'
theorem ref01_text_N_succ (n:Nat):jv (R:=R) (n+1)=MD (jv n):=by kernel_rfl
theorem Wz (R:Type):∀n,bb.Spec.Ok Tryz.prog 114 (aG rE rF (jR (jv (R:=R) n)) aC) :=
 mW (run:=fun n=>jR (jv (R:=R) n)) (fun x y k=>by kernel_rfl) fun n hyp=>UP R (jv n) hyp aC (fo _)
def fX:kO R:=fun x1 k0=>jv (Int.natAbs x1+2) x1 k0
theorem WA (R:Type):jR (R:=R) fX=fun x y k=>jR (jv (Int.natAbs x.1+2)) x y k:=by kernel_rfl
theorem WB (R:Type) (other:bb.Spec R) (ho:bb.Spec.Ok Tryz.prog 114 other):bb.Spec.Ok Tryz.prog 114 (aG rE rF (jR fX) other) :=
 rP (vE (run:=fun n=>jR (jv (R:=R) n)) (fun x y=>(Int.natAbs x.1+2)) ho (Wz R)) (WA R)
variable {R:Type}
abbrev CY (R:Type):Type:=cC→(af→Option R)→Option R
abbrev J1:List dh := [.agg [.int .i64, .int .i64]]
abbrev J2:List aY := []
def O1 (fn:CY R):oC R J1 J2:=fun x y k=>fn (⟨x.1.1,x.1.2.1⟩:cC) (fun q0=>k (.str q0) [])
def QL (fn:CY R):=aG J1 J2 (O1 fn)
abbrev Bc (R:Type):Type:=Nat→af→Int→cC→(af→cC→Option R)→Option R
abbrev zg (R:Type):Type:=Nat→af→cC→(af→cC→Option R)→Option R
def wx:Hint := { live := [1,4,5],own := [],rows := [],cells := [],drop := [],out := [1,2,4] }
abbrev nv:Type:=af×Int×cC
def zh:nv→St:=fun d=>⟨.undef :: .ptr 0 0::U 2 (.str d.1 :: .int .i64 d.2.1::U 52 ([])), [.cells [.int .i64 d.2.2.au, .int .i64 d.2.2.exp]]⟩
def Bd (K:Ex→St→Option R) (q0:af) (q1:cC):Option R:=K (.exit 0) ⟨.undef :: .ptr 0 0::U 2 (.str q0::U 53 ([])), [.cells [.int .i64 q1.au, .int .i64 q1.exp]]⟩
abbrev rG:List dh := .leaf (.undef) :: .leaf (.ptr 0 0)::PU 2 (.leaf (.str) :: .leaf (.int .i64)::PU 52 ([]))
abbrev rH:List aY := [.cells [.int .i64, .int .i64]]
def Jg (x:dh.bD rG) (y:aY.bD rH):Nat:=(List.length x.2.2.2.2.1+Int.natAbs x.2.2.2.2.2.1+cC.fu (⟨y.1.1,y.1.2.1⟩:cC)+64)
def Tm (x:dh.bD rG) (y:aY.bD rH):nv:=(x.2.2.2.2.1,x.2.2.2.2.2.1,(⟨y.1.1,y.1.2.1⟩:cC))
def HO (L:Bc R):sI R rG rH:=fun x y K=>L (Jg x y) x.2.2.2.2.1 x.2.2.2.2.2.1 (⟨y.1.1,y.1.2.1⟩:cC) (Bd K)
def uR:Hint := { live := [1,4],own := [],rows := [],cells := [],drop := [],out := [1,2,4] }
abbrev mu:Type:=af×cC
def xi:mu→St:=fun d=>⟨.undef :: .ptr 0 0::U 2 (.str d.1::U 53 ([])), [.cells [.int .i64 d.2.au, .int .i64 d.2.exp]]⟩
def zi (K:Ex→St→Option R) (q0:af) (q1:cC):Option R:=K (.exit 2) ⟨.undef :: .ptr 0 0::U 2 (.str q0::U 53 ([])), [.cells [.int .i64 q1.au, .int .i64 q1.exp]]⟩
abbrev pF:List dh := .leaf (.undef) :: .leaf (.ptr 0 0)::PU 2 (.leaf (.str)::PU 53 ([]))
abbrev pG:List aY := [.cells [.int .i64, .int .i64]]
def HP (x:dh.bD pF) (y:aY.bD pG):Nat:=(List.length x.2.2.2.2.1+cC.fu (⟨y.1.1,y.1.2.1⟩:cC)+64)
def RE (x:dh.bD pF) (y:aY.bD pG):mu:=(x.2.2.2.2.1,(⟨y.1.1,y.1.2.1⟩:cC))
def Gf (L:zg R):sI R pF pG:=fun x y K=>L (HP x y) x.2.2.2.2.1 (⟨y.1.1,y.1.2.1⟩:cC) (zi K)
section
variable (bY:xd R) (fX:kO R) (cw:Bc R) (ca:zg R)
def mP:List (sS R) := [(81,true,(JT bY aC)),(114,true,(Tk fX aC))]
def CZ (cb:af→Int→cC→Option R) (x4:af) (x5:Int) (x6:cC) (e0:af→cC→Option R):Option R :=
 bif (decide (x5<x6.exp))then (bB (decide (x4.length+1≤9223372036854775807)) (cb (x4++([48]:af)) (IntKind.i64.wrap (x5+1)) x6))else (e0 x4 x6)
def Jh (K:Ex→St→Option R) (rc:nv→Option R) (d:nv):Option R:=CZ (fun z0 z1 z2=>rc (z0,z1,z2)) d.1 d.2.1 d.2.2 (Bd K)
def Be (cb:af→cC→Option R) (x9:af) (Gc:cC) (e0:af→cC→Option R):Option R :=
 bif (decide ((x9.length:Int)≤(IntKind.i64.wrap (0 - Gc.exp))))then (bB (decide (1+x9.length≤9223372036854775807)) (cb (([48]:af)++x9) Gc))else (e0 x9 Gc)
def HQ (K:Ex→St→Option R) (rc:mu→Option R) (d:mu):Option R:=Be (fun z0 z1=>rc (z0,z1)) d.1 d.2 (zi K)
def oM:Nat→Option (Hint×cF R):=fun i=>match i with
 | 6=>some (wx,(cq rG rH (HO cw) gl))
 | 10=>some (uR,(cq pF pG (Gf ca) gl))
 | _=>none
theorem O2 (K:Ex→St→Option R) (rc:St→Option R) (d:nv):roundOf tt (cz (mP bY fX)) (oM cw ca) 0 ((aA (aQ Tryz.f75)).getD 0 .skip) wx (zh d) rc K=Jh K (fun d=>rc (zh d)) d:=by kernel_rfl
theorem NO (K:Ex→St→Option R) (rc:St→Option R) (d:mu):roundOf tt (cz (mP bY fX)) (oM cw ca) 0 ((aA (aQ Tryz.f75)).getD 1 .skip) uR (xi d) rc K=HQ K (fun d=>rc (xi d)) d:=by kernel_rfl
def EG (x1:cC) (k0:af→Option R):Option R :=
 bY x1 (fun y2=>bif (!y2)then (k0 ([]:af))else (fX (max x1.au (IntKind.i64.wrap (0 - x1.au))) (fun y3=>cw (List.length y3+Int.natAbs 0+cC.fu x1+64) y3 0 x1 (fun y7 y8=>bif (decide (y8.exp<(0:Int)))then (ca (List.length y7+cC.fu y8+64) y7 y8 (fun jf l9=>bB (decide ((0:Int)≤(IntKind.i64.wrap ((jf.length:Int)+l9.exp)))&&decide ((IntKind.i64.wrap ((jf.length:Int)+l9.exp))≤jf.length)) (bB (decide ((0:Int)≤(IntKind.i64.wrap ((jf.length:Int)+l9.exp)))) (bB (decide (((jf.drop 0).take ((IntKind.i64.wrap ((jf.length:Int)+l9.exp)).toNat - 0)).length+1≤9223372036854775807)) (bB (decide ((0:Int)≤(jf.length:Int))&&decide ((jf.length:Int)≤jf.length)) (bB (decide ((0:Int)≤(IntKind.i64.wrap ((jf.length:Int)+l9.exp)))&&decide ((IntKind.i64.wrap ((jf.length:Int)+l9.exp))≤(jf.length:Int))) (bB (decide ((((jf.drop 0).take ((IntKind.i64.wrap ((jf.length:Int)+l9.exp)).toNat - 0))++([46]:af)).length+((jf.drop (IntKind.i64.wrap ((jf.length:Int)+l9.exp)).toNat).take ((jf.length:Int).toNat - (IntKind.i64.wrap ((jf.length:Int)+l9.exp)).toNat)).length≤9223372036854775807)) (bif (decide (l9.au<(0:Int)))then (bB (decide (1+((((jf.drop 0).take ((IntKind.i64.wrap ((jf.length:Int)+l9.exp)).toNat - 0))++([46]:af))++((jf.drop (IntKind.i64.wrap ((jf.length:Int)+l9.exp)).toNat).take ((jf.length:Int).toNat - (IntKind.i64.wrap ((jf.length:Int)+l9.exp)).toNat))).length≤9223372036854775807)) (k0 (([45]:af)++((((jf.drop 0).take ((IntKind.i64.wrap ((jf.length:Int)+l9.exp)).toNat - 0))++([46]:af))++((jf.drop (IntKind.i64.wrap ((jf.length:Int)+l9.exp)).toNat).take ((jf.length:Int).toNat - (IntKind.i64.wrap ((jf.length:Int)+l9.exp)).toNat))))))else (k0 ((((jf.drop 0).take ((IntKind.i64.wrap ((jf.length:Int)+l9.exp)).toNat - 0))++([46]:af))++((jf.drop (IntKind.i64.wrap ((jf.length:Int)+l9.exp)).toNat).take ((jf.length:Int).toNat - (IntKind.i64.wrap ((jf.length:Int)+l9.exp)).toNat))))))))))))else (bif (decide (y8.au<(0:Int)))then (bB (decide (1+y7.length≤9223372036854775807)) (k0 (([45]:af)++y7)))else (k0 y7))))))
theorem Y5:fC (R:=R) tt (mP bY fX) (oM cw ca) false Tryz.f75 J1 J2 (O1 (EG bY fX cw ca)):=fun x y k=>by kernel_rfl
end
theorem WC:dy (R:=R) Tryz.prog (mP (R:=R) bY fX) := .c (KY R) <| .p (WB R _ (fo _)) <| .n
def cw:Bc R
 | 0,_,_,_,_=>none
 | n+1,eh,eB,fb,e0=>CZ (fun eh eB fb=>cw n eh eB fb e0) eh eB fb e0
def Ji (K:Ex→St→Option R) (n:Nat) (d:nv):Option R:=cw n d.1 d.2.1 d.2.2 (Bd K)
def ca:zg R
 | 0,_,_,_=>none
 | n+1,eh,eB,e0=>Be (fun eh eB=>ca n eh eB e0) eh eB e0
def HR (K:Ex→St→Option R) (n:Nat) (d:mu):Option R:=ca n d.1 d.2 (zi K)
theorem RF (other:cF R) (ho:fZ tt (cz (mP (R:=R) bY fX)) (oM (R:=R) cw ca) 0 ((aA (aQ Tryz.f75)).getD 0 .skip) wx other):fZ tt (cz (mP (R:=R) bY fX)) (oM (R:=R) cw ca) 0 ((aA (aQ Tryz.f75)).getD 0 .skip) wx (cq rG rH (HO (cw)) other) :=
 cx (A:=Ji) ho (dD zh (Jh) (Ji) (fun _ _=>by kernel_rfl) (O2 bY fX cw ca) (fun _ _ _=>by kernel_rfl)) Jg Tm (fun _ _=>by kernel_rfl) (fun _ _ _=>by kernel_rfl)
theorem PV (other:cF R) (ho:fZ tt (cz (mP (R:=R) bY fX)) (oM (R:=R) cw ca) 0 ((aA (aQ Tryz.f75)).getD 1 .skip) uR other):fZ tt (cz (mP (R:=R) bY fX)) (oM (R:=R) cw ca) 0 ((aA (aQ Tryz.f75)).getD 1 .skip) uR (cq pF pG (Gf (ca)) other) :=
 cx (A:=HR) ho (dD xi (HQ) (HR) (fun _ _=>by kernel_rfl) (NO bY fX cw ca) (fun _ _ _=>by kernel_rfl)) HP RE (fun _ _=>by kernel_rfl) (fun _ _ _=>by kernel_rfl)
def gI:CY R:=fun x1 k0=>EG bY fX cw ca x1 k0
theorem Tn (R:Type):∀a∈aA (aQ Tryz.f75),gE tt (cz (mP (R:=R) bY fX)) (oM (R:=R) cw ca) 0 a:=by
 refine eV 2 (by kernel_rfl) fun i hi => ?_
 match i,hi with
 | 0,_=>exact bT (by kernel_rfl) (RF _ cQ)
 | 1,_=>exact bT (by kernel_rfl) (PV _ cQ)
 | n+2,hi=>omega
theorem UQ (R:Type):od Tryz.prog 75 (QL (gI (R:=R))):=bS TT mixed (WC (R:=R)) rfl rfl rfl rfl (Tn R) (Y5 bY fX cw ca)
abbrev GR (R:Type):Type:=Int→(Int→Option R)→Option R
abbrev O3:List dh := [.leaf (.int .i64)]
abbrev O4:List aY := []
def To (fn:GR R):oC R O3 O4:=fun x y k=>fn x.1 (fun q0=>k (.int .u8 q0) [])
def VQ (fn:GR R):=aG O3 O4 (To fn)
section
def VR (x1:Int) (k0:Int→Option R):Option R :=
 bB (decide ((0:Int)≤(Int.tmod x1 16))&&decide ((Int.tmod x1 16)<(16:Int))) (k0 ((([48,49,50,51,52,53,54,55,56,57,97,98,99,100,101,102]:af).getD ((Int.tmod x1 16).toNat) 0).toNat:Int))
theorem ref02_hex_ok:fC (R:=R) tt [] AL false Tryz.f115 O3 O4 (To VR):=fun x y k=>by kernel_rfl
end
def jx:GR R:=fun x1 k0=>VR x1 k0
theorem Y6 (R:Type):od Tryz.prog 115 (VQ (jx (R:=R))):=bS TT mixed .n rfl rfl rfl rfl dM (ref02_hex_ok)
abbrev C0 (R:Type):Type:=af→(af→Bool→Option R)→Option R
abbrev J3:List dh := [.leaf (.str)]
abbrev J4:List aY := []
def O5 (fn:C0 R):oC R J3 J4:=fun x y k=>fn x.1 (fun q0 q1=>k (.tuple [.str q0, .bool q1]) [])
def QM (fn:C0 R):=aG J3 J4 (O5 fn)
abbrev Bf (R:Type):Type:=Nat→af→(List Int)→Int→((List Int)→Option R)→Option R
def wy:Hint := { live := [0,5,6],own := [],rows := [],cells := [],drop := [],out := [2,3,5] }
abbrev nA:Type:=af×(List Int)×Int
def zj:nA→St:=fun d=>⟨.str d.1::U 4 (.sl (.int .u8) d.2.1 (.own 0) :: .int .i64 d.2.2::U 77 ([])), [.tok]⟩
def Bg (K:Ex→St→Option R) (q0:List Int):Option R:=K (.exit 0) ⟨U 5 (.sl (.int .u8) q0 (.own 0)::U 78 ([])), [.tok]⟩
abbrev rI:List dh := .leaf (.str)::PU 4 (.leaf (.Ui (.int .u8) 0) :: .leaf (.int .i64)::PU 77 ([]))
abbrev rJ:List aY := [.tok]
def Jj (x:dh.bD rI) (y:aY.bD rJ):Nat:=(List.length x.1+List.length x.2.2.2.2.2.1+Int.natAbs x.2.2.2.2.2.2.1+64)
def Tp (x:dh.bD rI) (y:aY.bD rJ):nA:=(x.1,x.2.2.2.2.2.1,x.2.2.2.2.2.2.1)
def HS (L:Bf R):sI R rI rJ:=fun x y K=>L (Jj x y) x.1 x.2.2.2.2.2.1 x.2.2.2.2.2.2.1 (Bg K)
section
variable (bU:xe R) (jx:GR R) (cI:Bf R)
def vK:List (sS R) := [(82,true,(JW bU aC)),(115,true,(VQ jx aC))]
def wz (cb:af→(List Int)→Int→Option R) (x3:af) (x4:List Int) (x5:Int) (e0:(List Int)→Option R):Option R :=
 bif (decide (x5<(x3.length:Int)))then (bB (decide ((0:Int)≤x5)&&decide (x5<x3.length)) (let j9:=fun (z6:Bool)=>bif z6 then (bB (decide ((x4.length+2)*1≤140737488355328)) (cb x3 ((x4:List Int)++(([92,((x3.getD x5.toNat 0).toNat:Int)]:List Int):List Int)) (IntKind.i64.wrap (x5+1))))else (bif (((x3.getD x5.toNat 0).toNat:Int)==8)then (bB (decide ((x4.length+2)*1≤140737488355328)) (cb x3 ((x4:List Int)++(([92,98]:List Int):List Int)) (IntKind.i64.wrap (x5+1))))else (bif (((x3.getD x5.toNat 0).toNat:Int)==9)then (bB (decide ((x4.length+2)*1≤140737488355328)) (cb x3 ((x4:List Int)++(([92,116]:List Int):List Int)) (IntKind.i64.wrap (x5+1))))else (bif (((x3.getD x5.toNat 0).toNat:Int)==10)then (bB (decide ((x4.length+2)*1≤140737488355328)) (cb x3 ((x4:List Int)++(([92,110]:List Int):List Int)) (IntKind.i64.wrap (x5+1))))else (bif (((x3.getD x5.toNat 0).toNat:Int)==12)then (bB (decide ((x4.length+2)*1≤140737488355328)) (cb x3 ((x4:List Int)++(([92,102]:List Int):List Int)) (IntKind.i64.wrap (x5+1))))else (bif (((x3.getD x5.toNat 0).toNat:Int)==13)then (bB (decide ((x4.length+2)*1≤140737488355328)) (cb x3 ((x4:List Int)++(([92,114]:List Int):List Int)) (IntKind.i64.wrap (x5+1))))else (bif (decide (((x3.getD x5.toNat 0).toNat:Int)<(32:Int)))then (jx (IntKind.i64.wrap (Int.tdiv (IntKind.i64.wrap ((x3.getD x5.toNat 0).toNat:Int)) 16)) (fun y7=>jx (IntKind.i64.wrap ((x3.getD x5.toNat 0).toNat:Int)) (fun y8=>bB (decide ((x4.length+6)*1≤140737488355328)) (cb x3 ((x4:List Int)++(([92,117,48,48,y7,y8]:List Int):List Int)) (IntKind.i64.wrap (x5+1))))))else (bB (decide ((x4.length+1)*1≤140737488355328)) (cb x3 ((x4:List Int)++(([((x3.getD x5.toNat 0).toNat:Int)]:List Int):List Int)) (IntKind.i64.wrap (x5+1)))))))))); bif (((x3.getD x5.toNat 0).toNat:Int)==34)then (j9 true)else (j9 (((x3.getD x5.toNat 0).toNat:Int)==92))))else (e0 x4)
def Jk (K:Ex→St→Option R) (rc:nA→Option R) (d:nA):Option R:=wz jx (fun z0 z1 z2=>rc (z0,z1,z2)) d.1 d.2.1 d.2.2 (Bg K)
def Ak:Nat→Option (Hint×cF R):=fun i=>match i with
 | 6=>some (wy,(cq rI rJ (HS cI) gl))
 | _=>none
theorem O6 (K:Ex→St→Option R) (rc:St→Option R) (d:nA):roundOf tt (cz (vK bU jx)) (Ak cI) 0 ((aA (aQ Tryz.f76)).getD 0 .skip) wy (zj d) rc K=Jk jx K (fun d=>rc (zj d)) d:=by kernel_rfl
def EH (x1:af) (k0:af→Bool→Option R):Option R :=
 bU x1 (fun y2=>bif (!y2)then (k0 ([]:af) false)else (cI (List.length x1+List.length ([34]:List Int)+Int.natAbs 0+64) x1 ([34]:List Int) 0 (fun jf=>bB (decide ((jf.length+1)*1≤140737488355328)) (k0 (List.map (fun n:Int=>UInt8.ofNat n.toNat) ((jf:List Int)++(([34]:List Int):List Int)):af) true))))
theorem Y7:fC (R:=R) tt (vK bU jx) (Ak cI) false Tryz.f76 J3 J4 (O5 (EH bU cI)):=fun x y k=>by kernel_rfl
end
theorem WD:dy (R:=R) Tryz.prog (vK (R:=R) bU jx) := .c (K4 R) <| .c (Y6 R) <| .n
def cI:Bf R
 | 0,_,_,_,_=>none
 | n+1,eh,eB,fb,e0=>wz jx (fun eh eB fb=>cI n eh eB fb e0) eh eB fb e0
def Jl (K:Ex→St→Option R) (n:Nat) (d:nA):Option R:=cI n d.1 d.2.1 d.2.2 (Bg K)
theorem RG (other:cF R) (ho:fZ tt (cz (vK (R:=R) bU jx)) (Ak (R:=R) cI) 0 ((aA (aQ Tryz.f76)).getD 0 .skip) wy other):fZ tt (cz (vK (R:=R) bU jx)) (Ak (R:=R) cI) 0 ((aA (aQ Tryz.f76)).getD 0 .skip) wy (cq rI rJ (HS (cI)) other) :=
 cx (A:=Jl) ho (dD zj (Jk jx) (Jl) (fun _ _=>by kernel_rfl) (O6 bU jx cI) (fun _ _ _=>by kernel_rfl)) Jj Tp (fun _ _=>by kernel_rfl) (fun _ _ _=>by kernel_rfl)
def dU:C0 R:=fun x1 k0=>EH bU cI x1 k0
theorem Tq (R:Type):∀a∈aA (aQ Tryz.f76),gE tt (cz (vK (R:=R) bU jx)) (Ak (R:=R) cI) 0 a:=by
 refine eV 1 (by kernel_rfl) fun i hi => ?_
 match i,hi with
 | 0,_=>exact bT (by kernel_rfl) (RG _ cQ)
 | n+1,hi=>omega
theorem UR (R:Type):od Tryz.prog 76 (QM (dU (R:=R))):=bS TT mixed (WD (R:=R)) rfl rfl rfl rfl (Tq R) (Y7 bU jx cI)
abbrev fK (R:Type):Type:=Json→(af→Option R)→Option R
abbrev mQ:List dh := [.agg [.int .i64, .int .i64, .int .i64, .str, .sl .str, .sl .json]]
abbrev mR:List aY := []
def hY (fn:fK R):oC R mQ mR:=fun x y k=>fn (⟨x.1.1,⟨x.1.2.1,x.1.2.2.1⟩,x.1.2.2.2.1,x.1.2.2.2.2.1,x.1.2.2.2.2.2.1⟩:Json) (fun q0=>k (.str q0) [])
def QN (fn:fK R):=aG mQ mR (hY fn)
abbrev zk (R:Type):Type:=Nat→af→Int→Json→(af→Json→Option R)→Option R
def uS:Hint := { live := [1,5,6],own := [],rows := [],cells := [],drop := [],out := [1,2,5] }
abbrev mv:Type:=af×Int×Json
def xj:mv→St:=fun d=>⟨.undef :: .ptr 0 0::U 3 (.str d.1 :: .int .i64 d.2.1::U 68 ([])), [.cells [.int .i64 d.2.2.kind, .int .i64 d.2.2.num.au, .int .i64 d.2.2.num.exp, .str d.2.2.text, .sl .str d.2.2.names .no, .sl .json d.2.2.items .no]]⟩
def zm (K:Ex→St→Option R) (q0:af) (q1:Json):Option R:=K (.exit 1) ⟨.undef :: .ptr 0 0::U 3 (.str q0::U 69 ([])), [.cells [.int .i64 q1.kind, .int .i64 q1.num.au, .int .i64 q1.num.exp, .str q1.text, .sl .str q1.names .no, .sl .json q1.items .no]]⟩
abbrev pH:List dh := .leaf (.undef) :: .leaf (.ptr 0 0)::PU 3 (.leaf (.str) :: .leaf (.int .i64)::PU 68 ([]))
abbrev pI:List aY := [.cells [.int .i64, .int .i64, .int .i64, .str, .sl .str, .sl .json]]
def HT (x:dh.bD pH) (y:aY.bD pI):Nat:=(List.length x.2.2.2.2.2.1+Int.natAbs x.2.2.2.2.2.2.1+Json.fu (⟨y.1.1,⟨y.1.2.1,y.1.2.2.1⟩,y.1.2.2.2.1,y.1.2.2.2.2.1,y.1.2.2.2.2.2.1⟩:Json)+64)
def RH (x:dh.bD pH) (y:aY.bD pI):mv:=(x.2.2.2.2.2.1,x.2.2.2.2.2.2.1,(⟨y.1.1,⟨y.1.2.1,y.1.2.2.1⟩,y.1.2.2.2.1,y.1.2.2.2.2.1,y.1.2.2.2.2.2.1⟩:Json))
def Gg (L:zk R):sI R pH pI:=fun x y K=>L (HT x y) x.2.2.2.2.2.1 x.2.2.2.2.2.2.1 (⟨y.1.1,⟨y.1.2.1,y.1.2.2.1⟩,y.1.2.2.2.1,y.1.2.2.2.2.1,y.1.2.2.2.2.2.1⟩:Json) (zm K)
section
variable (dU:C0 R) (gI:CY R) (bh:fK R) (bO:zk R)
def vL:List (sS R) := [(76,true,(QM dU aC)),(75,true,(QL gI aC)),(55,true,(aG mQ mR (hY bh) aC))]
def uT (cb:af→Int→Json→Option R) (x5:af) (x6:Int) (x7:Json) (e0:af→Json→Option R):Option R :=
 bif (decide (x6<(x7.items.length:Int)))then (let j14:=fun (z8:af)=>let j13:=fun (pW:af)=>bB (decide ((0:Int)≤x6)&&decide (x6<x7.items.length)) (bh (⟨(x7.items.getD x6.toNat (Ty.br .json)).kind,⟨(x7.items.getD x6.toNat (Ty.br .json)).num.au,(x7.items.getD x6.toNat (Ty.br .json)).num.exp⟩,(x7.items.getD x6.toNat (Ty.br .json)).text,(x7.items.getD x6.toNat (Ty.br .json)).names,(x7.items.getD x6.toNat (Ty.br .json)).items⟩:Json) (fun l9=>bB (decide (pW.length+l9.length≤9223372036854775807)) (cb (pW++l9) (IntKind.i64.wrap (x6+1)) (⟨x7.kind,⟨x7.num.au,x7.num.exp⟩,x7.text,x7.names,x7.items⟩:Json)))); bif (x7.kind==7)then (bB (decide ((0:Int)≤x6)&&decide (x6<x7.names.length)) (dU (x7.names.getD x6.toNat (Ty.br .str)) (fun y9 o5=>bB (decide (z8.length+y9.length≤9223372036854775807)) (bB (decide ((z8++y9).length+1≤9223372036854775807)) (j13 ((z8++y9)++([58]:af)))))))else (j13 z8); bif (decide (x6>(0:Int)))then (bB (decide (x5.length+1≤9223372036854775807)) (j14 (x5++([44]:af))))else (j14 x5))else (e0 x5 (⟨x7.kind,⟨x7.num.au,x7.num.exp⟩,x7.text,x7.names,x7.items⟩:Json))
def HU (K:Ex→St→Option R) (rc:mv→Option R) (d:mv):Option R:=uT dU bh (fun z0 z1 z2=>rc (z0,z1,z2)) d.1 d.2.1 d.2.2 (zm K)
def Al:Nat→Option (Hint×cF R):=fun i=>match i with
 | 15=>some (uS,(cq pH pI (Gg bO) gl))
 | _=>none
theorem NP (K:Ex→St→Option R) (rc:St→Option R) (d:mv):roundOf tt (cz (vL dU gI bh)) (Al bO) 0 ((aA (aQ Tryz.f55)).getD 0 .skip) uS (xj d) rc K=HU dU bh K (fun d=>rc (xj d)) d:=by kernel_rfl
def J5 (x1:Json) (k0:af→Option R):Option R :=
 bif (x1.kind==1)then (k0 ([110,117,108,108]:af))else (bif (x1.kind==2)then (k0 ([102,97,108,115,101]:af))else (bif (x1.kind==3)then (k0 ([116,114,117,101]:af))else (bif (x1.kind==4)then (gI x1.num (fun y2=>k0 y2))else (bif (x1.kind==5)then (dU x1.text (fun y3 y4=>k0 y3))else (bO (List.length ([]:af)+Int.natAbs 0+Json.fu (⟨x1.kind,⟨x1.num.au,x1.num.exp⟩,x1.text,x1.names,x1.items⟩:Json)+64) ([]:af) 0 (⟨x1.kind,⟨x1.num.au,x1.num.exp⟩,x1.text,x1.names,x1.items⟩:Json) (fun yI Fp=>bif (Fp.kind==7)then (bB (decide (1+yI.length≤9223372036854775807)) (bB (decide ((([123]:af)++yI).length+1≤9223372036854775807)) (k0 ((([123]:af)++yI)++([125]:af)))))else (bB (decide (1+yI.length≤9223372036854775807)) (bB (decide ((([91]:af)++yI).length+1≤9223372036854775807)) (k0 ((([91]:af)++yI)++([93]:af)))))))))))
theorem Y8:fC (R:=R) tt (vL dU gI bh) (Al bO) false Tryz.f55 mQ mR (hY (J5 dU gI bO)):=fun x y k=>by kernel_rfl
end
theorem WE (bh:fK R) (vv:bb.Spec.Ok Tryz.prog 55 (aG mQ mR (hY bh) aC)):dy (R:=R) Tryz.prog (vL (R:=R) dU gI bh) := .c (UR R) <| .c (UQ R) <| .p vv <| .n
def bO (bh:fK R):zk R
 | 0,_,_,_,_=>none
 | n+1,eh,eB,fb,e0=>uT dU bh (fun eh eB fb=>bO bh n eh eB fb e0) eh eB fb e0
def HV (bh:fK R) (K:Ex→St→Option R) (n:Nat) (d:mv):Option R:=bO bh n d.1 d.2.1 d.2.2 (zm K)
theorem PW (bh:fK R) (other:cF R) (ho:fZ tt (cz (vL (R:=R) dU gI bh)) (Al (R:=R) (bO bh)) 0 ((aA (aQ Tryz.f55)).getD 0 .skip) uS other):fZ tt (cz (vL (R:=R) dU gI bh)) (Al (R:=R) (bO bh)) 0 ((aA (aQ Tryz.f55)).getD 0 .skip) uS (cq pH pI (Gg (bO bh)) other) :=
 cx (A:=HV bh) ho (dD xj (HU dU bh) (HV bh) (fun _ _=>by kernel_rfl) (NP dU gI bh (bO bh)) (fun _ _ _=>by kernel_rfl)) HT RH (fun _ _=>by kernel_rfl) (fun _ _ _=>by kernel_rfl)
def J6 (bh:fK R):fK R:=fun x1 k0=>J5 dU gI (bO bh) x1 k0
theorem Tr (R:Type) (bh:fK R) (vv:bb.Spec.Ok Tryz.prog 55 (aG mQ mR (hY bh) aC)):∀a∈aA (aQ Tryz.f55),gE tt (cz (vL (R:=R) dU gI bh)) (Al (R:=R) (bO bh)) 0 a:=by
 refine eV 1 (by kernel_rfl) fun i hi => ?_
 match i,hi with
 | 0,_=>exact bT (by kernel_rfl) (PW bh _ cQ)
 | n+1,hi=>omega
theorem Ts (R:Type) (bh:fK R) (vv:bb.Spec.Ok Tryz.prog 55 (aG mQ mR (hY bh) aC)):od Tryz.prog 55 (QN (J6 bh)):=bS TT mixed (WE bh vv) rfl rfl rfl rfl (Tr R bh vv) (Y8 dU gI bh (bO bh))
def fB:Nat→fK R
 | 0,_,_=>none
 | n+1,eh,k0'=>J6 (fB n) eh k0'
theorem ref04_print_N_succ (n:Nat):fB (R:=R) (n+1)=J6 (fB n):=by kernel_rfl
theorem US (R:Type):∀n,bb.Spec.Ok Tryz.prog 55 (aG mQ mR (hY (fB (R:=R) n)) aC) :=
 mW (run:=fun n=>hY (fB (R:=R) n)) (fun x y k=>by kernel_rfl) fun n hyp=>Ts R (fB n) hyp aC (fo _)
def oN:fK R:=fun x1 k0=>fB (Json.depth x1+2) x1 k0
theorem UT (R:Type):hY (R:=R) oN=fun x y k=>hY (fB (Json.depth (⟨x.1.1,⟨x.1.2.1,x.1.2.2.1⟩,x.1.2.2.2.1,x.1.2.2.2.2.1,x.1.2.2.2.2.2.1⟩:Json)+2)) x y k:=by kernel_rfl
theorem UU (R:Type) (other:bb.Spec R) (ho:bb.Spec.Ok Tryz.prog 55 other):bb.Spec.Ok Tryz.prog 55 (aG mQ mR (hY oN) other) :=
 rP (vE (run:=fun n=>hY (fB (R:=R) n)) (fun x y=>(Json.depth (⟨x.1.1,⟨x.1.2.1,x.1.2.2.1⟩,x.1.2.2.2.1,x.1.2.2.2.2.1,x.1.2.2.2.2.2.1⟩:Json)+2)) ho (US R)) (UT R)
abbrev C1 (R:Type):Type:=Json→(af→Option R)→Option R
abbrev J7:List dh := [.agg [.int .i64, .int .i64, .int .i64, .str, .sl .str, .sl .json]]
abbrev J8:List aY := []
def O7 (fn:C1 R):oC R J7 J8:=fun x y k=>fn (⟨x.1.1,⟨x.1.2.1,x.1.2.2.1⟩,x.1.2.2.2.1,x.1.2.2.2.2.1,x.1.2.2.2.2.2.1⟩:Json) (fun q0=>k (.str q0) [])
def QO (fn:C1 R):=aG J7 J8 (O7 fn)
section
variable (dT:xh R) (oN:fK R)
def QP:List (sS R) := [(33,true,(J0 dT aC)),(55,true,(QN oN aC))]
def QQ (x1:Json) (k0:af→Option R):Option R :=
 dT (⟨x1.kind,⟨x1.num.au,x1.num.exp⟩,x1.text,x1.names,x1.items⟩:Json) (fun y2=>bif (!y2)then (k0 ([]:af))else (oN (⟨x1.kind,⟨x1.num.au,x1.num.exp⟩,x1.text,x1.names,x1.items⟩:Json) (fun y3=>k0 y3)))
theorem Y9:fC (R:=R) tt (QP dT oN) AL false Tryz.f31 J7 J8 (O7 (QQ dT oN)):=fun x y k=>by kernel_rfl
end
theorem WG:dy (R:=R) Tryz.prog (QP (R:=R) dT oN) := .c (K6 R) <| .p (UU R _ (fo _)) <| .n
def gJ:C1 R:=fun x1 k0=>QQ dT oN x1 k0
theorem UW (R:Type):od Tryz.prog 31 (QO (gJ (R:=R))):=bS TT mixed (WG (R:=R)) rfl rfl rfl rfl dM (Y9 dT oN)
end Go.Proofs.YtmlkkgfenfdndaaGreatDoor
set_option maxRecDepth 100000
namespace Go.Proofs.YtmlkkgfenfdndaaGreatDoor
open Go Go.bb Go.Lib
theorem top2:∀b:Fin 256,(IntKind.u8.wrap ((BitVec.ofInt IntKind.u8.bits (b.val:Int) &&& BitVec.ofInt IntKind.u8.bits 192).toNat:Int) != 128)=decide (b.val / 64≠2):=by decide +kernel
theorem and31:∀b:Fin 256,IntKind.i64.wrap (IntKind.u8.wrap ((BitVec.ofInt IntKind.u8.bits (b.val:Int) &&& BitVec.ofInt IntKind.u8.bits 31).toNat:Int))=((b.val % 32:Nat):Int):=by decide +kernel
theorem and15b:∀b:Fin 256,IntKind.i64.wrap (IntKind.u8.wrap ((BitVec.ofInt IntKind.u8.bits (b.val:Int) &&& BitVec.ofInt IntKind.u8.bits 15).toNat:Int))=((b.val % 16:Nat):Int):=by decide +kernel
theorem and7:∀b:Fin 256,IntKind.i64.wrap (IntKind.u8.wrap ((BitVec.ofInt IntKind.u8.bits (b.val:Int) &&& BitVec.ofInt IntKind.u8.bits 7).toNat:Int))=((b.val % 8:Nat):Int):=by decide +kernel
theorem of64 (n:Nat) (h:n<18446744073709551616):(BitVec.ofInt IntKind.i64.bits (n:Int)).toNat=n:=by
 rw[BitVec.toNat_ofInt];show ((n:Int) % ((2 ^ 64:Nat):Int)).toNat=n;omega
theorem or6 (v x:Nat) (hv:v<1073741824) (hx:x<64) :
  IntKind.i64.wrap ((BitVec.ofInt IntKind.i64.bits (IntKind.i64.wrap ((v:Int)*2 ^ (min 6 IntKind.i64.bits))) ||| BitVec.ofInt IntKind.i64.bits (IntKind.i64.wrap (x:Int))).toNat:Int)=((v*64+x:Nat):Int):=by
 have e:(v:Int)*2 ^ (min 6 IntKind.i64.bits)=((v*64:Nat):Int):=by
  show (v:Int)*2 ^ 6=_;omega
 rw[e,aK (n:=((v*64:Nat):Int)) (by omega) (by omega),aK (n:=(x:Int)) (by omega) (by omega),BitVec.toNat_or,of64 _ (by omega),of64 _ (by omega)];have h2:v*64 ||| x=v*64+x:=by
  have:=Nat.two_pow_add_eq_or_of_lt (i:=6) (b:=x) (by omega) v;rw[show (2:Nat) ^ 6=64 from rfl]at this;rw[Nat.mul_comm v 64];exact this.symm
 rw[h2,aK (by omega) (by omega)]
theorem Ha {R:Type} {s:af} {i n low v k:Nat} (hs:s.length≤9000000000000000) (hk:k<n) (hi:i+k<s.length) (hv:v<1073741824) (cb:af→Int→Int→Int→Int→Int→Option R) (e0:Int→Int→Int→Option R) (e1:Int→Int→Int→Int→Option R) :
  mo cb s (i:Int) (n:Int) (low:Int) (v:Int) (k:Int) e0 e1=if (s.getD (i+k) 0).toNat / 64=2 then cb s (i:Int) (n:Int) (low:Int) ((v*64+(s.getD (i+k) 0).toNat % 64:Nat):Int) ((k+1:Nat):Int)else e1 0 (n:Int) (low:Int) (v:Int):=by
 unfold mo;have hw:IntKind.i64.wrap ((i:Int)+(k:Int))=((i+k:Nat):Int):=by rw[aK (by omega) (by omega)]; omega
 have hk1:IntKind.i64.wrap ((k:Int)+1)=((k+1:Nat):Int):=by rw[aK (by omega) (by omega)]; omega
 rw[hw,hk1,Int.toNat_natCast,aj (show (k:Int)<(n:Int) by omega),cond_true,ao (by rw[aj (by omega),aj (by omega)]; rfl)];have hb:=UInt8.toNat_lt (s.getD (i+k) 0);generalize (s.getD (i+k) 0).toNat=b at *;have t:=top2 ⟨b,hb⟩;simp only at t;rw[t];by_cases h:b / 64=2
 ·rw[aE (show ¬b / 64≠2 by omega),cond_false,if_pos h,ao (by rw[aj (by omega),aj (by omega)]; rfl)];have a:=and63 ⟨b,hb⟩;simp only at a;rw[a,or6 v (b % 64) hv (Nat.mod_lt _ (by omega))]
 ·rw[aj h,cond_true,if_neg h]
def WH (t:af):Nat:=if Rn t then (decodeL t).2 else 0
def tail (low v n:Nat):Nat:=if v<low∨1114111<v∨(55296≤v∧v≤57343)then 0 else n
theorem tail_ok {R:Type} (low v n:Nat) (k:Int→Option R):(bif (decide ((v:Int)<(low:Int)))then (k 0)else (bif (decide ((v:Int)>(1114111:Int)))then (k 0)else (bif (decide ((v:Int)≥(55296:Int)))then (bif (decide ((v:Int)≤(57343:Int)))then (k 0)else (k (n:Int)))else (k (n:Int)))))=k (tail low v n:Int):=by
 unfold tail;by_cases h1:v<low
 ·rw[aj (show (v:Int)<(low:Int) by omega),if_pos (.inl h1)]; rfl
 rw[aE (show ¬(v:Int)<(low:Int) by omega),cond_false];by_cases h2:1114111<v
 ·rw[aj (show (v:Int)>1114111 by omega),if_pos (.inr (.inl h2))]; rfl
 rw[aE (show ¬(v:Int)>1114111 by omega),cond_false];by_cases h3:55296≤v
 ·rw[aj (show (v:Int)≥55296 by omega),cond_true];by_cases h4:v≤57343
  ·rw[aj (show (v:Int)≤57343 by omega),if_pos (.inr (.inr ⟨h3,h4⟩))]; rfl
  ·rw[aE (show ¬(v:Int)≤57343 by omega),if_neg (by omega)]; rfl
 ·rw[aE (show ¬(v:Int)≥55296 by omega),if_neg (by omega)]; rfl
def refN (l b0 b1 b2 b3:Nat):Nat :=
 if b0<128 then 1
 else if 194≤b0∧b0≤223 then (if l<2 then 0 else if b1 / 64=2 then tail 128 (b0 % 32*64+b1 % 64) 2 else 0)
 else if 224≤b0∧b0≤239 then (if l<3 then 0 else if b1 / 64=2 then (if b2 / 64=2 then tail 2048 ((b0 % 16*64+b1 % 64)*64+b2 % 64) 3 else 0)else 0)
 else if 240≤b0∧b0≤244 then (if l<4 then 0 else if b1 / 64=2 then (if b2 / 64=2 then (if b3 / 64=2 then tail 65536 (((b0 % 8*64+b1 % 64)*64+b2 % 64)*64+b3 % 64) 4 else 0)else 0)else 0)
 else 0
set_option maxHeartbeats 4000000 in
theorem refN_eq (l b0 b1 b2 b3:Nat) (hl:1≤l) (h0:b0<256) (h1:b1<256) (h2:b2<256) (h3:b3<256) :
  refN l b0 b1 b2 b3=if (decodeN l b0 b1 b2 b3).1=65533∧(decodeN l b0 b1 b2 b3).2=1 then 0 else (decodeN l b0 b1 b2 b3).2:=by
 unfold refN tail decodeN;by_cases c0:b0<128
 ·simp only[c0,if_true];rw[if_neg (by omega)]
 simp only[c0,if_false];by_cases c1:194≤b0∧b0≤223
 ·simp only[c1,and_self,if_true];have d6:b0 / 32=6:=by omega
  have d14:¬b0 / 16=14:=by omega
  have d30:¬b0 / 8=30:=by omega
  simp only[d6,d14,d30,true_and,false_and,if_false]
  (repeat' split) <;> first|rfl|omega|(simp at *; omega)
 simp only[c1,if_false];by_cases c2:224≤b0∧b0≤239
 ·simp only[c2,and_self,if_true];have d6:¬b0 / 32=6:=by omega
  have d14:b0 / 16=14:=by omega
  have d30:¬b0 / 8=30:=by omega
  simp only[d6,d14,d30,true_and,false_and,if_false];have hv:(b0 % 16*64+b1 % 64)*64+b2 % 64=b0 % 16*4096+b1 % 64*64+b2 % 64:=by omega
  rw[hv];generalize b0 % 16*4096+b1 % 64*64+b2 % 64=v
  (repeat' split) <;> first|rfl|omega|(simp at *; omega)
 simp only[c2,if_false];by_cases c3:240≤b0∧b0≤244
 ·simp only[c3,and_self,if_true];have d6:¬b0 / 32=6:=by omega
  have d14:¬b0 / 16=14:=by omega
  have d30:b0 / 8=30:=by omega
  simp only[d6,d14,d30,true_and,false_and,if_false];have hv:((b0 % 8*64+b1 % 64)*64+b2 % 64)*64+b3 % 64=b0 % 8*262144+b1 % 64*4096+b2 % 64*64+b3 % 64:=by omega
  rw[hv];generalize b0 % 8*262144+b1 % 64*4096+b2 % 64*64+b3 % 64=v
  (repeat' split) <;> first|rfl|omega|(simp at *; omega)
 simp only[c3,if_false]
 (repeat' split) <;> first|rfl|omega|(simp at *; omega)
theorem Tt {R:Type} (n:Nat) (s:af) (a b c d e:Int) (e0:Int→Int→Int→Option R) (e1:Int→Int→Int→Int→Option R) :
  bL (n+1) s a b c d e e0 e1=mo (fun eh eB fb lZ BR BS=>bL n eh eB fb lZ BR BS e0 e1) s a b c d e e0 e1:=rfl
theorem one_end {R:Type} (s:af) (i n low v:Int) (cb:af→Int→Int→Int→Int→Int→Option R) (e0:Int→Int→Int→Option R) (e1:Int→Int→Int→Int→Option R) :
  mo cb s i n low v n e0 e1=e0 n low v:=by
 unfold mo;rw[aE (Int.lt_irrefl _),cond_false]
theorem one2 {R:Type} {s:af} {i low v F:Nat} (hs:s.length≤9000000000000000) (hi:i+2≤s.length) (hv:v<64) (hF:3≤F) (e0:Int→Int→Int→Option R) (e1:Int→Int→Int→Int→Option R) :
  bL F s (i:Int) 2 (low:Int) (v:Int) 1 e0 e1=if (s.getD (i+1) 0).toNat / 64=2 then e0 2 (low:Int) ((v*64+(s.getD (i+1) 0).toNat % 64:Nat):Int)else e1 0 2 (low:Int) (v:Int):=by
 obtain ⟨n,rfl⟩:∃n,F=n+2:=⟨F - 2,by omega⟩;rw[Tt];refine (Ha (n:=2) (k:=1) hs (by omega) (by omega) (by omega) _ e0 e1).trans ?_;by_cases h:(s.getD (i+1) 0).toNat / 64=2
 ·rw[if_pos h,if_pos h];show bL (n+1) s (i:Int) ((2:Nat):Int) (low:Int) _ ((1+1:Nat):Int) e0 e1=_;rw[Tt];exact one_end s i 2 low _ _ e0 e1
 ·rw[if_neg h,if_neg h]; rfl
theorem one3 {R:Type} {s:af} {i low v F:Nat} (hs:s.length≤9000000000000000) (hi:i+3≤s.length) (hv:v<64) (hF:4≤F) (e0:Int→Int→Int→Option R) (k:Int→Option R) :
  bL F s (i:Int) 3 (low:Int) (v:Int) 1 e0 (fun D7 _ _ _=>k D7)=if (s.getD (i+1) 0).toNat / 64=2 then (if (s.getD (i+2) 0).toNat / 64=2 then e0 3 (low:Int) (((v*64+(s.getD (i+1) 0).toNat % 64)*64+(s.getD (i+2) 0).toNat % 64:Nat):Int)else k 0)else k 0:=by
 obtain ⟨n,rfl⟩:∃n,F=n+3:=⟨F - 3,by omega⟩;rw[Tt];refine (Ha (n:=3) (k:=1) hs (by omega) (by omega) (by omega) _ e0 _).trans ?_;by_cases h:(s.getD (i+1) 0).toNat / 64=2
 ·rw[if_pos h,if_pos h];show bL (n+2) s (i:Int) ((3:Nat):Int) (low:Int) _ ((2:Nat):Int) e0 _=_;rw[Tt];refine (Ha (n:=3) (k:=2) hs (by omega) (by omega) (by omega) _ e0 _).trans ?_;by_cases h2:(s.getD (i+2) 0).toNat / 64=2
  ·rw[if_pos h2,if_pos h2];show bL (n+1) s (i:Int) ((3:Nat):Int) (low:Int) _ ((3:Nat):Int) e0 _=_;rw[Tt];exact one_end s i 3 low _ _ e0 _
  ·rw[if_neg h2,if_neg h2]
 ·rw[if_neg h,if_neg h]
theorem one4 {R:Type} {s:af} {i low v F:Nat} (hs:s.length≤9000000000000000) (hi:i+4≤s.length) (hv:v<64) (hF:5≤F) (e0:Int→Int→Int→Option R) (k:Int→Option R) :
  bL F s (i:Int) 4 (low:Int) (v:Int) 1 e0 (fun D7 _ _ _=>k D7)=if (s.getD (i+1) 0).toNat / 64=2 then (if (s.getD (i+2) 0).toNat / 64=2 then (if (s.getD (i+3) 0).toNat / 64=2 then
   e0 4 (low:Int) ((((v*64+(s.getD (i+1) 0).toNat % 64)*64+(s.getD (i+2) 0).toNat % 64)*64+(s.getD (i+3) 0).toNat % 64:Nat):Int)else k 0)else k 0)else k 0:=by
 obtain ⟨n,rfl⟩:∃n,F=n+4:=⟨F - 4,by omega⟩;rw[Tt];refine (Ha (n:=4) (k:=1) hs (by omega) (by omega) (by omega) _ e0 _).trans ?_;by_cases h:(s.getD (i+1) 0).toNat / 64=2
 ·rw[if_pos h,if_pos h];show bL (n+3) s (i:Int) ((4:Nat):Int) (low:Int) _ ((2:Nat):Int) e0 _=_;rw[Tt];refine (Ha (n:=4) (k:=2) hs (by omega) (by omega) (by omega) _ e0 _).trans ?_;by_cases h2:(s.getD (i+2) 0).toNat / 64=2
  ·rw[if_pos h2,if_pos h2];show bL (n+2) s (i:Int) ((4:Nat):Int) (low:Int) _ ((3:Nat):Int) e0 _=_;rw[Tt];refine (Ha (n:=4) (k:=3) hs (by omega) (by omega) (by omega) _ e0 _).trans ?_;by_cases h3:(s.getD (i+3) 0).toNat / 64=2
   ·rw[if_pos h3,if_pos h3];show bL (n+1) s (i:Int) ((4:Nat):Int) (low:Int) _ ((4:Nat):Int) e0 _=_;rw[Tt];exact one_end s i 4 low _ _ e0 _
   ·rw[if_neg h3,if_neg h3]
  ·rw[if_neg h2,if_neg h2]
 ·rw[if_neg h,if_neg h]
theorem HW (s:af) (i j:Nat):(s.drop i).getD j 0=s.getD (i+j) 0:=by simp[List.getD,List.getElem?_drop]
theorem oneN_ref (s:af) (i:Nat) (hi:i<s.length):WH (s.drop i)=refN (s.length - i) (s.getD i 0).toNat (s.getD (i+1) 0).toNat (s.getD (i+2) 0).toNat (s.getD (i+3) 0).toNat:=by
 rw[refN_eq _ _ _ _ _ (by omega) (UInt8.toNat_lt _) (UInt8.toNat_lt _) (UInt8.toNat_lt _) (UInt8.toNat_lt _)];have e:decodeL (s.drop i)=decodeN (s.length - i) (s.getD i 0).toNat (s.getD (i+1) 0).toNat (s.getD (i+2) 0).toNat (s.getD (i+3) 0).toNat:=by
  rw[decodeL_N,List.length_drop,HW,HW,HW,HW,Nat.add_zero]
 unfold WH;by_cases h:Rn (s.drop i)
 ·rw[if_pos h];unfold Rn at h;rw[e]at h ⊢;rw[if_neg h]
 ·rw[if_neg h];have h':=Decidable.not_not.1 h;rw[e]at h';rw[if_pos h']
theorem one_ok {R:Type} (s:af) (i:Nat) (hi:i<s.length) (hs:s.length≤9000000000000000) (k:Int→Option R):dP s (i:Int) k=k (WH (s.drop i):Int):=by
 have e:dP s (i:Int) k=Jc bL s (i:Int) k:=rfl;rw[e,oneN_ref s i hi];unfold Jc;rw[ao (by rw[aj (by omega),aj (by omega)]; rfl)];dsimp only;rw[Int.toNat_natCast];have hb:=UInt8.toNat_lt (s.getD i 0);have hF:∀a b c d e:Nat,5≤a+b+c+d+e+Int.natAbs 1+64:=fun a b c d e=>by omega
 unfold refN;have L2:=fun F (hF:3≤F) low v (hv:v<64) (h:i+2≤s.length) e0=>one2 (R:=R) (low:=low) hs h hv hF e0 (fun D7 _ _ _=>k D7)
 have L3:=fun F (hF:4≤F) low v (hv:v<64) (h:i+3≤s.length) e0=>one3 (R:=R) (low:=low) hs h hv hF e0 k
 have L4:=fun F (hF:5≤F) low v (hv:v<64) (h:i+4≤s.length) e0=>one4 (R:=R) (low:=low) hs h hv hF e0 k
 have a31:=and31 ⟨(s.getD i 0).toNat,hb⟩;have a15:=and15b ⟨(s.getD i 0).toNat,hb⟩;have a7:=and7 ⟨(s.getD i 0).toNat,hb⟩;simp only at a31 a15 a7;rw[a31,a15,a7];generalize (s.getD i 0).toNat=b at *;have w2:IntKind.i64.wrap ((i:Int)+2)=((i+2:Nat):Int):=by rw[aK (by omega) (by omega)]; omega
 have w3:IntKind.i64.wrap ((i:Int)+3)=((i+3:Nat):Int):=by rw[aK (by omega) (by omega)]; omega
 have w4:IntKind.i64.wrap ((i:Int)+4)=((i+4:Nat):Int):=by rw[aK (by omega) (by omega)]; omega
 rw[w2,w3,w4];by_cases c0:b<128
 ·rw[aj (show (b:Int)<128 by omega),cond_true,if_pos c0]; rfl
 rw[aE (show ¬(b:Int)<128 by omega),cond_false,if_neg c0];by_cases c1:194≤b∧b≤223
 ·rw[aj (show (b:Int)≥194 by omega),cond_true,aj (show (b:Int)≤223 by omega),cond_true,if_pos c1];by_cases hl:s.length - i<2
  ·rw[aj (show ((i+2:Nat):Int)>(s.length:Int) by omega),cond_true,if_pos hl]; rfl
  ·rw[aE (show ¬((i+2:Nat):Int)>(s.length:Int) by omega),cond_false,if_neg hl];refine (L2 _ (by omega) 128 (b % 32) (by omega) (by omega) _).trans ?_;by_cases h:(s.getD (i+1) 0).toNat / 64=2
   ·rw[if_pos h,if_pos h];exact tail_ok 128 _ 2 k
   ·rw[if_neg h,if_neg h]; rfl
 rw[if_neg c1];have j8:∀x z:Option R,(bif (decide ((b:Int)≥194))then (bif (decide ((b:Int)≤223))then x else z)else z)=z:=by
  intro x z;by_cases h:(b:Int)≥194
  ·rw[aj h,cond_true,aE (show ¬(b:Int)≤223 by omega),cond_false]
  ·rw[aE h,cond_false]
 simp only[cond_false];rw[j8];by_cases c2:224≤b∧b≤239
 ·rw[aj (show (b:Int)≥224 by omega),cond_true,aj (show (b:Int)≤239 by omega),cond_true,if_pos c2];by_cases hl:s.length - i<3
  ·rw[aj (show ((i+3:Nat):Int)>(s.length:Int) by omega),cond_true,if_pos hl]; rfl
  ·rw[aE (show ¬((i+3:Nat):Int)>(s.length:Int) by omega),cond_false,if_neg hl];refine (L3 _ (by omega) 2048 (b % 16) (by omega) (by omega) _).trans ?_;by_cases h:(s.getD (i+1) 0).toNat / 64=2
   ·rw[if_pos h,if_pos h];by_cases h2:(s.getD (i+2) 0).toNat / 64=2
    ·rw[if_pos h2,if_pos h2];exact tail_ok 2048 _ 3 k
    ·rw[if_neg h2,if_neg h2]; rfl
   ·rw[if_neg h,if_neg h]; rfl
 rw[if_neg c2];by_cases c3:240≤b∧b≤244
 ·have fin:(bif (decide (((i+4:Nat):Int)>(s.length:Int)))then (k 0)else (bL (List.length s+Int.natAbs (i:Int)+Int.natAbs 4+Int.natAbs 65536+Int.natAbs ((b % 8:Nat):Int)+Int.natAbs 1+64) s (i:Int) 4 65536 ((b % 8:Nat):Int) 1 (fun NX Cw Qs=>bif (decide (Qs<Cw))then (k 0)else (bif (decide (Qs>(1114111:Int)))then (k 0)else (bif (decide (Qs≥(55296:Int)))then (bif (decide (Qs≤(57343:Int)))then (k 0)else (k NX))else (k NX)))) (fun D7 y22 y23 y24=>k D7))) =
   k ((if s.length - i<4 then 0 else if (s.getD (i+1) 0).toNat / 64=2 then (if (s.getD (i+2) 0).toNat / 64=2 then (if (s.getD (i+3) 0).toNat / 64=2 then tail 65536 (((b % 8*64+(s.getD (i+1) 0).toNat % 64)*64+(s.getD (i+2) 0).toNat % 64)*64+(s.getD (i+3) 0).toNat % 64) 4 else 0)else 0)else 0:Nat):Int):=by
   by_cases hl:s.length - i<4
   ·rw[aj (show ((i+4:Nat):Int)>(s.length:Int) by omega),cond_true,if_pos hl]; rfl
   ·rw[aE (show ¬((i+4:Nat):Int)>(s.length:Int) by omega),cond_false,if_neg hl];refine (L4 _ (by omega) 65536 (b % 8) (by omega) (by omega) _).trans ?_;by_cases h:(s.getD (i+1) 0).toNat / 64=2
    ·rw[if_pos h,if_pos h];by_cases h2:(s.getD (i+2) 0).toNat / 64=2
     ·rw[if_pos h2,if_pos h2];by_cases h3:(s.getD (i+3) 0).toNat / 64=2
      ·rw[if_pos h3,if_pos h3];exact tail_ok 65536 _ 4 k
      ·rw[if_neg h3,if_neg h3]; rfl
     ·rw[if_neg h2,if_neg h2]; rfl
    ·rw[if_neg h,if_neg h]; rfl
  rw[aj (show (b:Int)≥224 by omega),cond_true,aE (show ¬(b:Int)≤239 by omega),cond_false,aj (show (b:Int)≥240 by omega),cond_true,aj (show (b:Int)≤244 by omega),cond_true,if_pos c3];exact fin
 ·rw[if_neg c3];by_cases h1:(b:Int)≥224
  ·rw[aj h1,cond_true,aE (show ¬(b:Int)≤239 by omega),cond_false];by_cases h2:(b:Int)≥240
   ·rw[aj h2,cond_true,aE (show ¬(b:Int)≤244 by omega)]; rfl
   ·rw[aE h2]; rfl
  ·rw[aE h1,cond_false];by_cases h2:(b:Int)≥240
   ·rw[aj h2,cond_true,aE (show ¬(b:Int)≤244 by omega)]; rfl
   ·rw[aE h2]; rfl
theorem oneN_zero {t:af}:WH t=0↔¬Rn t:=by
 unfold WH;have h:=decodeL_width t;by_cases hg:Rn t
 ·rw[if_pos hg]; constructor
  ·intro e; omega
  ·intro e; exact (e hg).elim
 ·rw[if_neg hg]; exact ⟨fun _=>hg,fun _=>rfl⟩
theorem refWhole_loop {R:Type} (s:af) (hs:s.length≤9000000000000000) (e0:Option R) (e1:Bool→Option R):∀(n i:Nat),i≤s.length→s.length - i<n →
  cH n s (i:Int) e0 e1=if fE (s.drop i)then e0 else e1 false:=by
 intro n
 induction n with
 | zero=>intro i h1 h2; omega
 | succ n ih =>
  intro i h1 h2;have e:cH (n+1) s (i:Int) e0 e1=wv dP (fun eh eB=>cH n eh eB e0 e1) s (i:Int) e0 e1:=rfl;rw[e];unfold wv;by_cases hi:i<s.length
  ·rw[aj (show (i:Int)<(s.length:Int) by omega),cond_true,one_ok s i hi hs];have im:s.drop i ≠ []:=by
    intro e;have:=congrArg List.length e;rw[List.length_drop,List.length_nil]at this;omega
   rw[Og im];by_cases hg:Rn (s.drop i)
   ·have ho:WH (s.drop i)=(decodeL (s.drop i)).2:=by unfold WH; rw[if_pos hg]
    have h3:=decodeL_width (s.drop i);have h4:=decodeL_le _ im;rw[List.length_drop]at h4;have e0':(((WH (s.drop i):Nat):Int)==0)=false:=by rw[beq_eq_false_iff_ne]; omega
    rw[e0',cond_false,if_pos hg,ho];have hw:IntKind.i64.wrap ((i:Int)+((decodeL (s.drop i)).2:Int))=((i+(decodeL (s.drop i)).2:Nat):Int):=by rw[aK (by omega) (by omega)]; omega
    rw[hw];show cH n s ((i+(decodeL (s.drop i)).2:Nat):Int) e0 e1=_;rw[ih _ (by omega) (by omega),List.drop_drop]
   ·have e0':(((WH (s.drop i):Nat):Int)==0)=true:=by rw[oneN_zero.2 hg]; rfl
    rw[e0',cond_true,if_neg hg];rfl
  ·rw[aE (show ¬(i:Int)<(s.length:Int) by omega),cond_false];have:s.drop i = []:=List.drop_eq_nil_of_le (by omega);rw[this];rfl
theorem O8 {R:Type} (s:af) (hs:s.length≤9000000000000000) (k:Bool→Option R):bU s k=k (fE s):=by
 have e:bU s k=EF cH s k:=rfl;rw[e];unfold EF;have:=refWhole_loop (R:=R) s hs (k true) (fun y5=>k y5) (List.length s+Int.natAbs 0+64) 0 (by omega) (by omega);refine Eq.trans this ?_;rw[List.drop_zero];cases fE s <;> rfl
end Go.Proofs.YtmlkkgfenfdndaaGreatDoor
set_option maxRecDepth 100000
namespace Go.Proofs.YtmlkkgfenfdndaaGreatDoor
open Go Go.bb
variable {R:Type}
abbrev fO (R:Type):Type:=Json→Json→(Bool→Option R)→Option R
abbrev ou:List dh := [.agg [.int .i64, .int .i64, .int .i64, .str, .sl .str, .sl .json], .agg [.int .i64, .int .i64, .int .i64, .str, .sl .str, .sl .json]]
abbrev ov:List aY := []
def jd (fn:fO R):oC R ou ov:=fun x y k=>fn (⟨x.1.1,⟨x.1.2.1,x.1.2.2.1⟩,x.1.2.2.2.1,x.1.2.2.2.2.1,x.1.2.2.2.2.2.1⟩:Json) (⟨x.2.1.1,⟨x.2.1.2.1,x.2.1.2.2.1⟩,x.2.1.2.2.2.1,x.2.1.2.2.2.2.1,x.2.1.2.2.2.2.2.1⟩:Json) (fun q0=>k (.bool q0) [])
def Tu (fn:fO R):=aG ou ov (jd fn)
abbrev C2 (R:Type):Type:=Nat→Int→Json→Json→(Json→Json→Option R)→(Bool→Json→Json→Option R)→Option R
abbrev C3 (R:Type):Type:=Nat→Int→Json→Json→(Option R)→(Bool→Option R)→Option R
def xX:Hint := { live := [2,3,5],own := [],rows := [],cells := [],drop := [],out := [2,3,4] }
abbrev oW:Type:=Int×Json×Json
def Bh:oW→St:=fun d=>⟨U 2 (.ptr 0 0 :: .ptr 1 0 :: .undef :: .int .i64 d.1::U 77 ([])), [.cells [.int .i64 d.2.1.kind, .int .i64 d.2.1.num.au, .int .i64 d.2.1.num.exp, .str d.2.1.text, .sl .str d.2.1.names .no, .sl .json d.2.1.items .no], .cells [.int .i64 d.2.2.kind, .int .i64 d.2.2.num.au, .int .i64 d.2.2.num.exp, .str d.2.2.text, .sl .str d.2.2.names .no, .sl .json d.2.2.items .no]]⟩
def C4 (K:Ex→St→Option R) (q0:Json) (q1:Json):Option R:=K (.exit 0) ⟨U 2 (.ptr 0 0 :: .ptr 1 0::U 79 ([])), [.cells [.int .i64 q0.kind, .int .i64 q0.num.au, .int .i64 q0.num.exp, .str q0.text, .sl .str q0.names .no, .sl .json q0.items .no], .cells [.int .i64 q1.kind, .int .i64 q1.num.au, .int .i64 q1.num.exp, .str q1.text, .sl .str q1.names .no, .sl .json q1.items .no]]⟩
def C5 (K:Ex→St→Option R) (q0:Bool) (q1:Json) (q2:Json):Option R:=K (.ret) ⟨U 2 (.ptr 0 0 :: .ptr 1 0 :: .bool q0::U 78 ([])), [.cells [.int .i64 q1.kind, .int .i64 q1.num.au, .int .i64 q1.num.exp, .str q1.text, .sl .str q1.names .no, .sl .json q1.items .no], .cells [.int .i64 q2.kind, .int .i64 q2.num.au, .int .i64 q2.num.exp, .str q2.text, .sl .str q2.names .no, .sl .json q2.items .no]]⟩
abbrev tS:List dh:=PU 2 (.leaf (.ptr 0 0) :: .leaf (.ptr 1 0) :: .leaf (.undef) :: .leaf (.int .i64)::PU 77 ([]))
abbrev tT:List aY := [.cells [.int .i64, .int .i64, .int .i64, .str, .sl .str, .sl .json], .cells [.int .i64, .int .i64, .int .i64, .str, .sl .str, .sl .json]]
def K7 (x:dh.bD tS) (y:aY.bD tT):Nat:=(Int.natAbs x.2.2.2.2.2.1+Json.fu (⟨y.1.1,⟨y.1.2.1,y.1.2.2.1⟩,y.1.2.2.2.1,y.1.2.2.2.2.1,y.1.2.2.2.2.2.1⟩:Json)+Json.fu (⟨y.2.1.1,⟨y.2.1.2.1,y.2.1.2.2.1⟩,y.2.1.2.2.2.1,y.2.1.2.2.2.2.1,y.2.1.2.2.2.2.2.1⟩:Json)+64)
def UX (x:dh.bD tS) (y:aY.bD tT):oW:=(x.2.2.2.2.2.1,(⟨y.1.1,⟨y.1.2.1,y.1.2.2.1⟩,y.1.2.2.2.1,y.1.2.2.2.2.1,y.1.2.2.2.2.2.1⟩:Json),(⟨y.2.1.1,⟨y.2.1.2.1,y.2.1.2.2.1⟩,y.2.1.2.2.2.1,y.2.1.2.2.2.2.1,y.2.1.2.2.2.2.2.1⟩:Json))
def Jm (L:C2 R):sI R tS tT:=fun x y K=>L (K7 x y) x.2.2.2.2.2.1 (⟨y.1.1,⟨y.1.2.1,y.1.2.2.1⟩,y.1.2.2.2.1,y.1.2.2.2.2.1,y.1.2.2.2.2.2.1⟩:Json) (⟨y.2.1.1,⟨y.2.1.2.1,y.2.1.2.2.1⟩,y.2.1.2.2.2.1,y.2.1.2.2.2.2.1,y.2.1.2.2.2.2.2.1⟩:Json) (C4 K) (C5 K)
def xY:Hint := { live := [2,3,6],own := [],rows := [],cells := [],drop := [],out := [4] }
abbrev oX:Type:=Int×Json×Json
def Bi:oX→St:=fun d=>⟨U 2 (.ptr 0 0 :: .ptr 1 0::U 2 (.int .i64 d.1::U 76 ([]))), [.cells [.int .i64 d.2.1.kind, .int .i64 d.2.1.num.au, .int .i64 d.2.1.num.exp, .str d.2.1.text, .sl .str d.2.1.names .no, .sl .json d.2.1.items .no], .cells [.int .i64 d.2.2.kind, .int .i64 d.2.2.num.au, .int .i64 d.2.2.num.exp, .str d.2.2.text, .sl .str d.2.2.names .no, .sl .json d.2.2.items .no]]⟩
def C6 (K:Ex→St→Option R):Option R:=K (.exit 2) ⟨U 83 ([]), []⟩
def C7 (K:Ex→St→Option R) (q0:Bool):Option R:=K (.ret) ⟨U 4 (.bool q0::U 78 ([])), []⟩
abbrev tU:List dh:=PU 2 (.leaf (.ptr 0 0) :: .leaf (.ptr 1 0)::PU 2 (.leaf (.int .i64)::PU 76 ([])))
abbrev tV:List aY := [.cells [.int .i64, .int .i64, .int .i64, .str, .sl .str, .sl .json], .cells [.int .i64, .int .i64, .int .i64, .str, .sl .str, .sl .json]]
def K8 (x:dh.bD tU) (y:aY.bD tV):Nat:=(Int.natAbs x.2.2.2.2.2.2.1+Json.fu (⟨y.1.1,⟨y.1.2.1,y.1.2.2.1⟩,y.1.2.2.2.1,y.1.2.2.2.2.1,y.1.2.2.2.2.2.1⟩:Json)+Json.fu (⟨y.2.1.1,⟨y.2.1.2.1,y.2.1.2.2.1⟩,y.2.1.2.2.2.1,y.2.1.2.2.2.2.1,y.2.1.2.2.2.2.2.1⟩:Json)+64)
def UY (x:dh.bD tU) (y:aY.bD tV):oX:=(x.2.2.2.2.2.2.1,(⟨y.1.1,⟨y.1.2.1,y.1.2.2.1⟩,y.1.2.2.2.1,y.1.2.2.2.2.1,y.1.2.2.2.2.2.1⟩:Json),(⟨y.2.1.1,⟨y.2.1.2.1,y.2.1.2.2.1⟩,y.2.1.2.2.2.1,y.2.1.2.2.2.2.1,y.2.1.2.2.2.2.2.1⟩:Json))
def Jn (L:C3 R):sI R tU tV:=fun x y K=>L (K8 x y) x.2.2.2.2.2.2.1 (⟨y.1.1,⟨y.1.2.1,y.1.2.2.1⟩,y.1.2.2.2.1,y.1.2.2.2.2.1,y.1.2.2.2.2.2.1⟩:Json) (⟨y.2.1.1,⟨y.2.1.2.1,y.2.1.2.2.1⟩,y.2.1.2.2.2.1,y.2.1.2.2.2.2.1,y.2.1.2.2.2.2.2.1⟩:Json) (C6 K) (C7 K)
section
variable (aS:fO R) (cD:C2 R) (cu:C3 R)
def ow:List (sS R) := [(34,true,(aG ou ov (jd aS) aC))]
def xZ (cb:Int→Json→Json→Option R) (x4:Int) (x5:Json) (x6:Json) (e0:Json→Json→Option R) (e1:Bool→Json→Json→Option R):Option R :=
 bif (decide (x4<(x5.names.length:Int)))then (bB (decide ((0:Int)≤x4)&&decide (x4<x5.names.length)) (bB (decide ((0:Int)≤x4)&&decide (x4<x6.names.length)) (bif (!((x5.names.getD x4.toNat (Ty.br .str))==(x6.names.getD x4.toNat (Ty.br .str))))then (e1 false (⟨x5.kind,⟨x5.num.au,x5.num.exp⟩,x5.text,x5.names,x5.items⟩:Json) (⟨x6.kind,⟨x6.num.au,x6.num.exp⟩,x6.text,x6.names,x6.items⟩:Json))else (cb (IntKind.i64.wrap (x4+1)) (⟨x5.kind,⟨x5.num.au,x5.num.exp⟩,x5.text,x5.names,x5.items⟩:Json) (⟨x6.kind,⟨x6.num.au,x6.num.exp⟩,x6.text,x6.names,x6.items⟩:Json)))))else (e0 (⟨x5.kind,⟨x5.num.au,x5.num.exp⟩,x5.text,x5.names,x5.items⟩:Json) (⟨x6.kind,⟨x6.num.au,x6.num.exp⟩,x6.text,x6.names,x6.items⟩:Json))
def K9 (K:Ex→St→Option R) (rc:oW→Option R) (d:oW):Option R:=xZ (fun z0 z1 z2=>rc (z0,z1,z2)) d.1 d.2.1 d.2.2 (C4 K) (C5 K)
def oY (cb:Int→Json→Json→Option R) (NZ:Int) (I8:Json) (Mf:Json) (e0:Option R) (e1:Bool→Option R):Option R :=
 bif (decide (NZ<(I8.items.length:Int)))then (bB (decide ((0:Int)≤NZ)&&decide (NZ<I8.items.length)) (bB (decide ((0:Int)≤NZ)&&decide (NZ<Mf.items.length)) (aS (⟨(I8.items.getD NZ.toNat (Ty.br .json)).kind,⟨(I8.items.getD NZ.toNat (Ty.br .json)).num.au,(I8.items.getD NZ.toNat (Ty.br .json)).num.exp⟩,(I8.items.getD NZ.toNat (Ty.br .json)).text,(I8.items.getD NZ.toNat (Ty.br .json)).names,(I8.items.getD NZ.toNat (Ty.br .json)).items⟩:Json) (⟨(Mf.items.getD NZ.toNat (Ty.br .json)).kind,⟨(Mf.items.getD NZ.toNat (Ty.br .json)).num.au,(Mf.items.getD NZ.toNat (Ty.br .json)).num.exp⟩,(Mf.items.getD NZ.toNat (Ty.br .json)).text,(Mf.items.getD NZ.toNat (Ty.br .json)).names,(Mf.items.getD NZ.toNat (Ty.br .json)).items⟩:Json) (fun yI=>bif (!yI)then (e1 false)else (cb (IntKind.i64.wrap (NZ+1)) (⟨I8.kind,⟨I8.num.au,I8.num.exp⟩,I8.text,I8.names,I8.items⟩:Json) (⟨Mf.kind,⟨Mf.num.au,Mf.num.exp⟩,Mf.text,Mf.names,Mf.items⟩:Json))))))else (e0)
def La (K:Ex→St→Option R) (rc:oX→Option R) (d:oX):Option R:=oY aS (fun z0 z1 z2=>rc (z0,z1,z2)) d.1 d.2.1 d.2.2 (C6 K) (C7 K)
def rK:Nat→Option (Hint×cF R):=fun i=>match i with
 | 4=>some (xX,(cq tS tT (Jm cD) gl))
 | 9=>some (xY,(cq tU tV (Jn cu) gl))
 | _=>none
theorem PX (K:Ex→St→Option R) (rc:St→Option R) (d:oW):roundOf tt (cz (ow aS)) (rK cD cu) 0 ((aA (aQ Tryz.f34)).getD 0 .skip) xX (Bh d) rc K=K9 K (fun d=>rc (Bh d)) d:=by kernel_rfl
theorem PY (K:Ex→St→Option R) (rc:St→Option R) (d:oX):roundOf tt (cz (ow aS)) (rK cD cu) 0 ((aA (aQ Tryz.f34)).getD 1 .skip) xY (Bi d) rc K=La aS K (fun d=>rc (Bi d)) d:=by kernel_rfl
def ox (x1:Json) (x2:Json) (k0:Bool→Option R):Option R :=
 bif (x1.kind != x2.kind)then (k0 false)else (bif (!(x1.num.au==x2.num.au&&(x1.num.exp==x2.num.exp&&true)))then (k0 false)else (bif (!(x1.text==x2.text))then (k0 false)else (bif ((x1.names.length:Int) != (x2.names.length:Int))then (k0 false)else (bif ((x1.items.length:Int) != (x2.items.length:Int))then (k0 false)else (cD (Int.natAbs 0+Json.fu (⟨x1.kind,⟨x1.num.au,x1.num.exp⟩,x1.text,x1.names,x1.items⟩:Json)+Json.fu (⟨x2.kind,⟨x2.num.au,x2.num.exp⟩,x2.text,x2.names,x2.items⟩:Json)+64) 0 (⟨x1.kind,⟨x1.num.au,x1.num.exp⟩,x1.text,x1.names,x1.items⟩:Json) (⟨x2.kind,⟨x2.num.au,x2.num.exp⟩,x2.text,x2.names,x2.items⟩:Json) (fun y7 y8=>cu (Int.natAbs 0+Json.fu (⟨y7.kind,⟨y7.num.au,y7.num.exp⟩,y7.text,y7.names,y7.items⟩:Json)+Json.fu (⟨y8.kind,⟨y8.num.au,y8.num.exp⟩,y8.text,y8.names,y8.items⟩:Json)+64) 0 (⟨y7.kind,⟨y7.num.au,y7.num.exp⟩,y7.text,y7.names,y7.items⟩:Json) (⟨y8.kind,⟨y8.num.au,y8.num.exp⟩,y8.text,y8.names,y8.items⟩:Json) (k0 true) (fun Fp=>k0 Fp)) (fun y9 o5 jf=>k0 y9))))))
theorem ref04_Same_ok:fC (R:=R) tt (ow aS) (rK cD cu) false Tryz.f34 ou ov (jd (ox cD cu)):=fun x y k=>by kernel_rfl
end
theorem Za (aS:fO R) (xk:bb.Spec.Ok Tryz.prog 34 (aG ou ov (jd aS) aC)):dy (R:=R) Tryz.prog (ow (R:=R) aS) := .p xk <| .n
def cD:C2 R
 | 0,_,_,_,_,_=>none
 | n+1,eh,eB,fb,e0,e1=>xZ (fun eh eB fb=>cD n eh eB fb e0 e1) eh eB fb e0 e1
def Lb (K:Ex→St→Option R) (n:Nat) (d:oW):Option R:=cD n d.1 d.2.1 d.2.2 (C4 K) (C5 K)
def cu (aS:fO R):C3 R
 | 0,_,_,_,_,_=>none
 | n+1,eh,eB,fb,e0,e1=>oY aS (fun eh eB fb=>cu aS n eh eB fb e0 e1) eh eB fb e0 e1
def Lc (aS:fO R) (K:Ex→St→Option R) (n:Nat) (d:oX):Option R:=cu aS n d.1 d.2.1 d.2.2 (C6 K) (C7 K)
theorem Tv (aS:fO R) (other:cF R) (ho:fZ tt (cz (ow (R:=R) aS)) (rK (R:=R) cD (cu aS)) 0 ((aA (aQ Tryz.f34)).getD 0 .skip) xX other):fZ tt (cz (ow (R:=R) aS)) (rK (R:=R) cD (cu aS)) 0 ((aA (aQ Tryz.f34)).getD 0 .skip) xX (cq tS tT (Jm (cD)) other) :=
 cx (A:=Lb) ho (dD Bh (K9) (Lb) (fun _ _=>by kernel_rfl) (PX aS cD (cu aS)) (fun _ _ _=>by kernel_rfl)) K7 UX (fun _ _=>by kernel_rfl) (fun _ _ _=>by kernel_rfl)
theorem Tw (aS:fO R) (other:cF R) (ho:fZ tt (cz (ow (R:=R) aS)) (rK (R:=R) cD (cu aS)) 0 ((aA (aQ Tryz.f34)).getD 1 .skip) xY other):fZ tt (cz (ow (R:=R) aS)) (rK (R:=R) cD (cu aS)) 0 ((aA (aQ Tryz.f34)).getD 1 .skip) xY (cq tU tV (Jn (cu aS)) other) :=
 cx (A:=Lc aS) ho (dD Bi (La aS) (Lc aS) (fun _ _=>by kernel_rfl) (PY aS cD (cu aS)) (fun _ _ _=>by kernel_rfl)) K8 UY (fun _ _=>by kernel_rfl) (fun _ _ _=>by kernel_rfl)
def ME (aS:fO R):fO R:=fun x1 x2 k0=>ox cD (cu aS) x1 x2 k0
theorem UZ (R:Type) (aS:fO R) (xk:bb.Spec.Ok Tryz.prog 34 (aG ou ov (jd aS) aC)):∀a∈aA (aQ Tryz.f34),gE tt (cz (ow (R:=R) aS)) (rK (R:=R) cD (cu aS)) 0 a:=by
 refine eV 2 (by kernel_rfl) fun i hi => ?_
 match i,hi with
 | 0,_=>exact bT (by kernel_rfl) (Tv aS _ cQ)
 | 1,_=>exact bT (by kernel_rfl) (Tw aS _ cQ)
 | n+2,hi=>omega
theorem U0 (R:Type) (aS:fO R) (xk:bb.Spec.Ok Tryz.prog 34 (aG ou ov (jd aS) aC)):od Tryz.prog 34 (Tu (ME aS)):=bS TT mixed (Za aS xk) rfl rfl rfl rfl (UZ R aS xk) (ref04_Same_ok aS cD (cu aS))
def fL:Nat→fO R
 | 0,_,_,_=>none
 | n+1,eh,eB,k0'=>ME (fL n) eh eB k0'
theorem ref04_Same_N_succ (n:Nat):fL (R:=R) (n+1)=ME (fL n):=by kernel_rfl
theorem WI (R:Type):∀n,bb.Spec.Ok Tryz.prog 34 (aG ou ov (jd (fL (R:=R) n)) aC) :=
 mW (run:=fun n=>jd (fL (R:=R) n)) (fun x y k=>by kernel_rfl) fun n hyp=>U0 R (fL n) hyp aC (fo _)
def fy:fO R:=fun x1 x2 k0=>fL (Json.depth x1+2) x1 x2 k0
theorem WJ (R:Type):jd (R:=R) fy=fun x y k=>jd (fL (Json.depth (⟨x.1.1,⟨x.1.2.1,x.1.2.2.1⟩,x.1.2.2.2.1,x.1.2.2.2.2.1,x.1.2.2.2.2.2.1⟩:Json)+2)) x y k:=by kernel_rfl
theorem WK (R:Type) (other:bb.Spec R) (ho:bb.Spec.Ok Tryz.prog 34 other):bb.Spec.Ok Tryz.prog 34 (aG ou ov (jd fy) other) :=
 rP (vE (run:=fun n=>jd (fL (R:=R) n)) (fun x y=>(Json.depth (⟨x.1.1,⟨x.1.2.1,x.1.2.2.1⟩,x.1.2.2.2.1,x.1.2.2.2.2.1,x.1.2.2.2.2.2.1⟩:Json)+2)) ho (WI R)) (WJ R)
abbrev EI (R:Type):Type:=af→Int→(Int→Option R)→Option R
abbrev MF:List dh := [.leaf (.str), .leaf (.int .i64)]
abbrev MG:List aY := []
def QR (fn:EI R):oC R MF MG:=fun x y k=>fn x.1 x.2.1 (fun q0=>k (.int .i64 q0) [])
def Tx (fn:EI R):=aG MF MG (QR fn)
abbrev C8 (R:Type):Type:=Nat→af→Int→Int→Int→(Int→Option R)→(Int→Int→Option R)→Option R
def ya:Hint := { live := [0,1,5,6],own := [],rows := [],cells := [],drop := [],out := [4,5] }
abbrev oZ:Type:=af×Int×Int×Int
def Bj:oZ→St:=fun d=>⟨.str d.1 :: .int .i64 d.2.1::U 3 (.int .i64 d.2.2.1 :: .int .i64 d.2.2.2::U 54 ([])), []⟩
def C9 (K:Ex→St→Option R) (q0:Int):Option R:=K (.exit 0) ⟨U 5 (.int .i64 q0::U 55 ([])), []⟩
def Da (K:Ex→St→Option R) (q0:Int) (q1:Int):Option R:=K (.ret) ⟨U 4 (.int .i64 q0 :: .int .i64 q1::U 55 ([])), []⟩
abbrev tW:List dh := .leaf (.str) :: .leaf (.int .i64)::PU 3 (.leaf (.int .i64) :: .leaf (.int .i64)::PU 54 ([]))
abbrev tX:List aY := []
def Ld (x:dh.bD tW) (y:aY.bD tX):Nat:=(List.length x.1+Int.natAbs x.2.1+Int.natAbs x.2.2.2.2.2.1+Int.natAbs x.2.2.2.2.2.2.1+64)
def U1 (x:dh.bD tW) (y:aY.bD tX):oZ:=(x.1,x.2.1,x.2.2.2.2.2.1,x.2.2.2.2.2.2.1)
def Jo (L:C8 R):sI R tW tX:=fun x y K=>L (Ld x y) x.1 x.2.1 x.2.2.2.2.2.1 x.2.2.2.2.2.2.1 (C9 K) (Da K)
section
variable (cE:C8 R)
def mw (cb:af→Int→Int→Int→Option R) (x3:af) (x4:Int) (x5:Int) (x6:Int) (e0:Int→Option R) (e1:Int→Int→Option R):Option R :=
 bif (decide (x6<(IntKind.i64.wrap (x4+4))))then (bB (decide ((0:Int)≤x6)&&decide (x6<x3.length)) (let j12:=fun (z7:Bool)=>bif z7 then (cb x3 x4 (IntKind.i64.wrap ((IntKind.i64.wrap (16*x5))+(IntKind.i64.wrap (IntKind.u8.wrap (((x3.getD x6.toNat 0).toNat:Int) - 48))))) (IntKind.i64.wrap (x6+1)))else (bif (decide (((x3.getD x6.toNat 0).toNat:Int)≥(97:Int)))then (bif (decide (((x3.getD x6.toNat 0).toNat:Int)≤(102:Int)))then (cb x3 x4 (IntKind.i64.wrap ((IntKind.i64.wrap (16*x5))+(IntKind.i64.wrap ((IntKind.i64.wrap (IntKind.u8.wrap (((x3.getD x6.toNat 0).toNat:Int) - 97)))+10)))) (IntKind.i64.wrap (x6+1)))else (bif (decide (((x3.getD x6.toNat 0).toNat:Int)≥(65:Int)))then (bif (decide (((x3.getD x6.toNat 0).toNat:Int)≤(70:Int)))then (cb x3 x4 (IntKind.i64.wrap ((IntKind.i64.wrap (16*x5))+(IntKind.i64.wrap ((IntKind.i64.wrap (IntKind.u8.wrap (((x3.getD x6.toNat 0).toNat:Int) - 65)))+10)))) (IntKind.i64.wrap (x6+1)))else (e1 (-1) x5))else (e1 (-1) x5)))else (bif (decide (((x3.getD x6.toNat 0).toNat:Int)≥(65:Int)))then (bif (decide (((x3.getD x6.toNat 0).toNat:Int)≤(70:Int)))then (cb x3 x4 (IntKind.i64.wrap ((IntKind.i64.wrap (16*x5))+(IntKind.i64.wrap ((IntKind.i64.wrap (IntKind.u8.wrap (((x3.getD x6.toNat 0).toNat:Int) - 65)))+10)))) (IntKind.i64.wrap (x6+1)))else (e1 (-1) x5))else (e1 (-1) x5))); bif (decide (((x3.getD x6.toNat 0).toNat:Int)≥(48:Int)))then (j12 (decide (((x3.getD x6.toNat 0).toNat:Int)≤(57:Int))))else (j12 false)))else (e0 x5)
def Le (K:Ex→St→Option R) (rc:oZ→Option R) (d:oZ):Option R:=mw (fun z0 z1 z2 z3=>rc (z0,z1,z2,z3)) d.1 d.2.1 d.2.2.1 d.2.2.2 (C9 K) (Da K)
def Db:Nat→Option (Hint×cF R):=fun i=>match i with
 | 5=>some (ya,(cq tW tX (Jo cE) gl))
 | _=>none
theorem PZ (K:Ex→St→Option R) (rc:St→Option R) (d:oZ):roundOf tt (cz []) (Db cE) 0 ((aA (aQ Tryz.f158)).getD 0 .skip) ya (Bj d) rc K=Le K (fun d=>rc (Bj d)) d:=by kernel_rfl
def GS (x1:af) (x2:Int) (k0:Int→Option R):Option R :=
 bif (decide ((IntKind.i64.wrap (x2+4))>(x1.length:Int)))then (k0 (-1))else (cE (List.length x1+Int.natAbs x2+Int.natAbs 0+Int.natAbs x2+64) x1 x2 0 x2 (fun yI=>k0 yI) (fun Fp KD=>k0 Fp))
theorem ref02_four_ok:fC (R:=R) tt [] (Db cE) false Tryz.f158 MF MG (QR (GS cE)):=fun x y k=>by kernel_rfl
end
def cE:C8 R
 | 0,_,_,_,_,_,_=>none
 | n+1,eh,eB,fb,lZ,e0,e1=>mw (fun eh eB fb lZ=>cE n eh eB fb lZ e0 e1) eh eB fb lZ e0 e1
def Lf (K:Ex→St→Option R) (n:Nat) (d:oZ):Option R:=cE n d.1 d.2.1 d.2.2.1 d.2.2.2 (C9 K) (Da K)
theorem Tz (other:cF R) (ho:fZ tt (cz []) (Db (R:=R) cE) 0 ((aA (aQ Tryz.f158)).getD 0 .skip) ya other):fZ tt (cz []) (Db (R:=R) cE) 0 ((aA (aQ Tryz.f158)).getD 0 .skip) ya (cq tW tX (Jo (cE)) other) :=
 cx (A:=Lf) ho (dD Bj (Le) (Lf) (fun _ _=>by kernel_rfl) (PZ cE) (fun _ _ _=>by kernel_rfl)) Ld U1 (fun _ _=>by kernel_rfl) (fun _ _ _=>by kernel_rfl)
def iv:EI R:=fun x1 x2 k0=>GS cE x1 x2 k0
theorem U2 (R:Type):∀a∈aA (aQ Tryz.f158),gE tt (cz []) (Db (R:=R) cE) 0 a:=by
 refine eV 1 (by kernel_rfl) fun i hi => ?_
 match i,hi with
 | 0,_=>exact bT (by kernel_rfl) (Tz _ cQ)
 | n+1,hi=>omega
theorem WL (R:Type):od Tryz.prog 158 (Tx (iv (R:=R))):=bS TT mixed .n rfl rfl rfl rfl (U2 R) (ref02_four_ok cE)
abbrev EJ (R:Type):Type:=Int→((List Int)→Option R)→Option R
abbrev MH:List dh := [.leaf (.int .i64)]
abbrev MI:List aY := []
def QS (fn:EJ R):oC R MH MI:=fun x y k=>fn x.1 (fun q0=>k (.sl (.int .u8) q0 .no) [])
def TA (fn:EJ R):=aG MH MI (QS fn)
section
def GU (x1:Int) (k0:(List Int)→Option R):Option R :=
 bif (decide (x1<(128:Int)))then (k0 ([(IntKind.u8.wrap x1)]:List Int))else (bif (decide (x1<(2048:Int)))then (k0 ([(IntKind.u8.wrap (IntKind.i64.wrap ((BitVec.ofInt IntKind.i64.bits 192 ||| BitVec.ofInt IntKind.i64.bits (Int.fdiv x1 (2 ^ (min 6 IntKind.i64.bits)))).toNat:Int))),(IntKind.u8.wrap (IntKind.i64.wrap ((BitVec.ofInt IntKind.i64.bits 128 ||| BitVec.ofInt IntKind.i64.bits (IntKind.i64.wrap ((BitVec.ofInt IntKind.i64.bits x1 &&& BitVec.ofInt IntKind.i64.bits 63).toNat:Int))).toNat:Int)))]:List Int))else (bif (decide (x1<(65536:Int)))then (k0 ([(IntKind.u8.wrap (IntKind.i64.wrap ((BitVec.ofInt IntKind.i64.bits 224 ||| BitVec.ofInt IntKind.i64.bits (Int.fdiv x1 (2 ^ (min 12 IntKind.i64.bits)))).toNat:Int))),(IntKind.u8.wrap (IntKind.i64.wrap ((BitVec.ofInt IntKind.i64.bits 128 ||| BitVec.ofInt IntKind.i64.bits (IntKind.i64.wrap ((BitVec.ofInt IntKind.i64.bits (Int.fdiv x1 (2 ^ (min 6 IntKind.i64.bits))) &&& BitVec.ofInt IntKind.i64.bits 63).toNat:Int))).toNat:Int))),(IntKind.u8.wrap (IntKind.i64.wrap ((BitVec.ofInt IntKind.i64.bits 128 ||| BitVec.ofInt IntKind.i64.bits (IntKind.i64.wrap ((BitVec.ofInt IntKind.i64.bits x1 &&& BitVec.ofInt IntKind.i64.bits 63).toNat:Int))).toNat:Int)))]:List Int))else (k0 ([(IntKind.u8.wrap (IntKind.i64.wrap ((BitVec.ofInt IntKind.i64.bits 240 ||| BitVec.ofInt IntKind.i64.bits (Int.fdiv x1 (2 ^ (min 18 IntKind.i64.bits)))).toNat:Int))),(IntKind.u8.wrap (IntKind.i64.wrap ((BitVec.ofInt IntKind.i64.bits 128 ||| BitVec.ofInt IntKind.i64.bits (IntKind.i64.wrap ((BitVec.ofInt IntKind.i64.bits (Int.fdiv x1 (2 ^ (min 12 IntKind.i64.bits))) &&& BitVec.ofInt IntKind.i64.bits 63).toNat:Int))).toNat:Int))),(IntKind.u8.wrap (IntKind.i64.wrap ((BitVec.ofInt IntKind.i64.bits 128 ||| BitVec.ofInt IntKind.i64.bits (IntKind.i64.wrap ((BitVec.ofInt IntKind.i64.bits (Int.fdiv x1 (2 ^ (min 6 IntKind.i64.bits))) &&& BitVec.ofInt IntKind.i64.bits 63).toNat:Int))).toNat:Int))),(IntKind.u8.wrap (IntKind.i64.wrap ((BitVec.ofInt IntKind.i64.bits 128 ||| BitVec.ofInt IntKind.i64.bits (IntKind.i64.wrap ((BitVec.ofInt IntKind.i64.bits x1 &&& BitVec.ofInt IntKind.i64.bits 63).toNat:Int))).toNat:Int)))]:List Int))))
theorem ref02_laid_ok:fC (R:=R) tt [] AL false Tryz.f159 MH MI (QS GU):=fun x y k=>by kernel_rfl
end
def gR:EJ R:=fun x1 k0=>GU x1 k0
theorem WM (R:Type):od Tryz.prog 159 (TA (gR (R:=R))):=bS TT mixed .n rfl rfl rfl rfl dM (ref02_laid_ok)
abbrev AA (R:Type):Type:=af→Int→((List Int)→Int→Option R)→Option R
abbrev HX:List dh := [.leaf (.str), .leaf (.int .i64)]
abbrev HY:List aY := []
def Np (fn:AA R):oC R HX HY:=fun x y k=>fn x.1 x.2.1 (fun q0 q1=>k (.tuple [.sl (.int .u8) q0 .no, .int .i64 q1]) [])
def O9 (fn:AA R):=aG HX HY (Np fn)
section
variable (iv:EI R) (gR:EJ R)
def Pa:List (sS R) := [(158,true,(Tx iv aC)),(159,true,(TA gR aC))]
def Dc (x1:af) (x2:Int) (k0:(List Int)→Int→Option R):Option R :=
 bif (decide (x2≥(x1.length:Int)))then (k0 ([]:List Int) 0)else (bB (decide ((0:Int)≤x2)&&decide (x2<x1.length)) (let j15:=fun (z3:Bool)=>bif z3 then (bB (decide ((0:Int)≤x2)&&decide (x2<x1.length)) (k0 ([((x1.getD x2.toNat 0).toNat:Int)]:List Int) 1))else (bif (((x1.getD x2.toNat 0).toNat:Int)==98)then (k0 ([8]:List Int) 1)else (bif (((x1.getD x2.toNat 0).toNat:Int)==102)then (k0 ([12]:List Int) 1)else (bif (((x1.getD x2.toNat 0).toNat:Int)==110)then (k0 ([10]:List Int) 1)else (bif (((x1.getD x2.toNat 0).toNat:Int)==114)then (k0 ([13]:List Int) 1)else (bif (((x1.getD x2.toNat 0).toNat:Int)==116)then (k0 ([9]:List Int) 1)else (bif (((x1.getD x2.toNat 0).toNat:Int)==117)then (iv x1 (IntKind.i64.wrap (x2+1)) (fun y4=>let j14:=bif (decide (y4<(55296:Int)))then (gR y4 (fun y8=>k0 y8 5))else (bif (decide (y4>(57343:Int)))then (gR y4 (fun y9=>k0 y9 5))else (bif (decide ((IntKind.i64.wrap (x2+7))>(x1.length:Int)))then (k0 ([]:List Int) 0)else (bB (decide ((0:Int)≤(IntKind.i64.wrap (x2+5)))&&decide ((IntKind.i64.wrap (x2+5))<x1.length)) (bif (((x1.getD ((IntKind.i64.wrap (x2+5)).toNat) 0).toNat:Int) != 92)then (k0 ([]:List Int) 0)else (bB (decide ((0:Int)≤(IntKind.i64.wrap (x2+6)))&&decide ((IntKind.i64.wrap (x2+6))<x1.length)) (bif (((x1.getD ((IntKind.i64.wrap (x2+6)).toNat) 0).toNat:Int) != 117)then (k0 ([]:List Int) 0)else (iv x1 (IntKind.i64.wrap (x2+7)) (fun jf=>bif (decide (jf<(56320:Int)))then (k0 ([]:List Int) 0)else (bif (decide (jf>(57343:Int)))then (k0 ([]:List Int) 0)else (gR (IntKind.i64.wrap ((IntKind.i64.wrap ((IntKind.i64.wrap (65536+(IntKind.i64.wrap ((IntKind.i64.wrap (y4 - 55296))*2 ^ (min 10 IntKind.i64.bits)))))+jf)) - 56320)) (fun DN=>k0 DN 11))))))))))); bif (decide (y4<(0:Int)))then (k0 ([]:List Int) 0)else (bif (decide (y4≥(56320:Int)))then (bif (decide (y4≤(57343:Int)))then (k0 ([]:List Int) 0)else (j14))else (j14))))else (k0 ([]:List Int) 0))))))); bif (((x1.getD x2.toNat 0).toNat:Int)==34)then (j15 (((x1.getD x2.toNat 0).toNat:Int)==34))else (bif (((x1.getD x2.toNat 0).toNat:Int)==92)then (j15 (((x1.getD x2.toNat 0).toNat:Int)==92))else (j15 (((x1.getD x2.toNat 0).toNat:Int)==47)))))
theorem WN:fC (R:=R) tt (Pa iv gR) AL false Tryz.f140 HX HY (Np (Dc iv gR)):=fun x y k=>by kernel_rfl
end
theorem U3:dy (R:=R) Tryz.prog (Pa (R:=R) iv gR) := .c (WL R) <| .c (WM R) <| .n
def eZ:AA R:=fun x1 x2 k0=>Dc iv gR x1 x2 k0
theorem TB (R:Type):od Tryz.prog 140 (O9 (eZ (R:=R))):=bS TT mixed (U3 (R:=R)) rfl rfl rfl rfl dM (WN iv gR)
abbrev yb (R:Type):Type:=af→(af→Int→Bool→Option R)→Option R
abbrev FO:List dh := [.leaf (.str)]
abbrev FP:List aY := []
def Lg (fn:yb R):oC R FO FP:=fun x y k=>fn x.1 (fun q0 q1 q2=>k (.tuple [.str q0, .int .i64 q1, .bool q2]) [])
def Nq (fn:yb R):=aG FO FP (Lg fn)
abbrev xl (R:Type):Type:=Nat→af→(List Int)→Int→(Option R)→(af→Int→Bool→Option R)→Option R
def sQ:Hint := { live := [0,5,6],own := [(5,(.int .u8))],rows := [],cells := [],drop := [],out := [2,3,4] }
abbrev lH:Type:=af×(List Int)×Int
def vN:lH→St:=fun d=>⟨.str d.1::U 4 (.sl (.int .u8) d.2.1 (.own 0) :: .int .i64 d.2.2::U 66 ([])), [.tok]⟩
def xm (K:Ex→St→Option R):Option R:=K (.exit 0) ⟨U 73 ([]), []⟩
def xn (K:Ex→St→Option R) (q0:af) (q1:Int) (q2:Bool):Option R:=K (.ret) ⟨U 2 (.str q0 :: .int .i64 q1 :: .bool q2::U 68 ([])), []⟩
abbrev n0:List dh := .leaf (.str)::PU 4 (.leaf (.Ui (.int .u8) 0) :: .leaf (.int .i64)::PU 66 ([]))
abbrev n8:List aY := [.tok]
def Gh (x:dh.bD n0) (y:aY.bD n8):Nat:=(List.length x.1+List.length x.2.2.2.2.2.1+Int.natAbs x.2.2.2.2.2.2.1+64)
def P0 (x:dh.bD n0) (y:aY.bD n8):lH:=(x.1,x.2.2.2.2.2.1,x.2.2.2.2.2.2.1)
def Fc (L:xl R):sI R n0 n8:=fun x y K=>L (Gh x y) x.1 x.2.2.2.2.2.1 x.2.2.2.2.2.2.1 (xm K) (xn K)
section
variable (eZ:AA R) (dP:CS R) (bR:xl R)
def qA:List (sS R) := [(140,true,(O9 eZ aC)),(118,true,(OS dP aC))]
def sR (cb:af→(List Int)→Int→Option R) (x3:af) (x4:List Int) (x5:Int) (e0:Option R) (e1:af→Int→Bool→Option R):Option R :=
 bif (decide (x5<(x3.length:Int)))then (bB (decide ((0:Int)≤x5)&&decide (x5<x3.length)) (bif (((x3.getD x5.toNat 0).toNat:Int)==34)then (e1 (List.map (fun n:Int=>UInt8.ofNat n.toNat) x4:af) (IntKind.i64.wrap (x5+1)) true)else (bB (decide ((0:Int)≤x5)&&decide (x5<x3.length)) (bif (decide (((x3.getD x5.toNat 0).toNat:Int)<(32:Int)))then (e1 ([]:af) 0 false)else (bB (decide ((0:Int)≤x5)&&decide (x5<x3.length)) (bif (((x3.getD x5.toNat 0).toNat:Int)==92)then (eZ x3 (IntKind.i64.wrap (x5+1)) (fun y6 y7=>bif (y7==0)then (e1 ([]:af) 0 false)else (bB (decide ((x4.length+y6.length)*1≤140737488355328)) (cb x3 ((x4:List Int)++(y6:List Int)) (IntKind.i64.wrap ((IntKind.i64.wrap (x5+1))+y7))))))else (dP x3 x5 (fun y8=>bif (y8==0)then (e1 ([]:af) 0 false)else (bB (decide ((0:Int)≤(IntKind.i64.wrap (x5+y8)))&&decide ((IntKind.i64.wrap (x5+y8))≤x3.length)) (bB (decide ((0:Int)≤x5)&&decide (x5≤(IntKind.i64.wrap (x5+y8)))) (bB (decide ((x4.length+(oc ((x3.drop x5.toNat).take ((IntKind.i64.wrap (x5+y8)).toNat - x5.toNat))).length)*1≤140737488355328)) (cb x3 ((x4:List Int)++((oc ((x3.drop x5.toNat).take ((IntKind.i64.wrap (x5+y8)).toNat - x5.toNat))):List Int)) (IntKind.i64.wrap (x5+y8))))))))))))))else (e0)
def Gi (K:Ex→St→Option R) (rc:lH→Option R) (d:lH):Option R:=sR eZ dP (fun z0 z1 z2=>rc (z0,z1,z2)) d.1 d.2.1 d.2.2 (xm K) (xn K)
def vw:Nat→Option (Hint×cF R):=fun i=>match i with
 | 5=>some (sQ,(cq n0 n8 (Fc bR) gl))
 | _=>none
theorem MJ (K:Ex→St→Option R) (rc:St→Option R) (d:lH):roundOf tt (cz (qA eZ dP)) (vw bR) 0 ((aA (aQ Tryz.f119)).getD 0 .skip) sQ (vN d) rc K=Gi eZ dP K (fun d=>rc (vN d)) d:=by kernel_rfl
def AB (x1:af) (k0:af→Int→Bool→Option R):Option R :=
 bif (decide ((x1.length:Int)<(2:Int)))then (k0 ([]:af) 0 false)else (bB (decide ((0:Int)<x1.length)) (bif (((x1.getD 0 0).toNat:Int) != 34)then (k0 ([]:af) 0 false)else (bR (List.length x1+List.length ([]:List Int)+Int.natAbs 1+64) x1 ([]:List Int) 1 (k0 ([]:af) 0 false) (fun y9 o5 jf=>k0 y9 o5 jf))))
theorem U4:fC (R:=R) tt (qA eZ dP) (vw bR) false Tryz.f119 FO FP (Lg (AB bR)):=fun x y k=>by kernel_rfl
end
theorem TC:dy (R:=R) Tryz.prog (qA (R:=R) eZ dP) := .c (TB R) <| .c (OT R) <| .n
def bR:xl R
 | 0,_,_,_,_,_=>none
 | n+1,eh,eB,fb,e0,e1=>sR eZ dP (fun eh eB fb=>bR n eh eB fb e0 e1) eh eB fb e0 e1
def Gj (K:Ex→St→Option R) (n:Nat) (d:lH):Option R:=bR n d.1 d.2.1 d.2.2 (xm K) (xn K)
theorem Pb (other:cF R) (ho:fZ tt (cz (qA (R:=R) eZ dP)) (vw (R:=R) bR) 0 ((aA (aQ Tryz.f119)).getD 0 .skip) sQ other):fZ tt (cz (qA (R:=R) eZ dP)) (vw (R:=R) bR) 0 ((aA (aQ Tryz.f119)).getD 0 .skip) sQ (cq n0 n8 (Fc (bR)) other) :=
 cx (A:=Gj) ho (dD vN (Gi eZ dP) (Gj) (fun _ _=>by kernel_rfl) (MJ eZ dP bR) (fun _ _ _=>by kernel_rfl)) Gh P0 (fun _ _=>by kernel_rfl) (fun _ _ _=>by kernel_rfl)
def je:yb R:=fun x1 k0=>AB bR x1 k0
theorem P1 (R:Type):∀a∈aA (aQ Tryz.f119),gE tt (cz (qA (R:=R) eZ dP)) (vw (R:=R) bR) 0 a:=by
 refine eV 1 (by kernel_rfl) fun i hi => ?_
 match i,hi with
 | 0,_=>exact bT (by kernel_rfl) (Pb _ cQ)
 | n+1,hi=>omega
theorem RI (R:Type):od Tryz.prog 119 (Nq (je (R:=R))):=bS TT mixed (TC (R:=R)) rfl rfl rfl rfl (P1 R) (U4 eZ dP bR)
end Go.Proofs.YtmlkkgfenfdndaaGreatDoor
set_option maxRecDepth 100000
namespace Go.Proofs.YtmlkkgfenfdndaaGreatDoor
open Go Go.bb Go.Lib
theorem Py (n m:Nat):((n:Int)==(m:Int))=decide (n=m):=by
 by_cases h:n=m
 ·subst h; simp
 ·have:¬((n:Int)=(m:Int)):=by omega
  simp[h,this]
def qb (b:UInt8):af :=
 if b.toNat=34∨b.toNat=92 then [92,b]else if b.toNat=8 then [92,98]else if b.toNat=9 then [92,116]else if b.toNat=10 then [92,110]else if b.toNat=12 then [92,102]else if b.toNat=13 then [92,114]
 else if b.toNat<32 then [92,117,48,48,JM.getD (b.toNat / 16) 0,JM.getD (b.toNat % 16) 0]else [b]
theorem qb_len (b:UInt8):(qb b).length≤6:=by unfold qb; (repeat' split) <;> simp
theorem hexI:∀b:Fin 32,Int.tmod (IntKind.i64.wrap (Int.tdiv (IntKind.i64.wrap (b.val:Int)) 16)) 16=((b.val / 16:Nat):Int)∧Int.tmod (IntKind.i64.wrap (b.val:Int)) 16=((b.val % 16:Nat):Int):=by decide +kernel
theorem refQuote_loop {R:Type} (s:af) (hs:s.length≤90000000000) (e0:List Int→Option R):∀(n i:Nat) (o:af),i≤s.length→s.length - i<n→o.length+6*(s.length - i)≤900000000000 →
  cI n s (zs o) (i:Int) e0=e0 (zs (o++(s.drop i).flatMap qb)):=by
 intro n
 induction n with
 | zero=>intro i o h1 h2; omega
 | succ n ih =>
  intro i o h1 h2 h3;have e:cI (n+1) s (zs o) (i:Int) e0=wz jx (fun eh eB fb=>cI n eh eB fb e0) s (zs o) (i:Int) e0:=rfl;rw[e];unfold wz;by_cases hi:i<s.length
  ·have hw:IntKind.i64.wrap ((i:Int)+1)=((i+1:Nat):Int):=by rw[aK (by omega) (by omega)]; omega
   rw[aj (show (i:Int)<(s.length:Int) by omega),cond_true,ao (by rw[aj (show (0:Int)≤(i:Int) by omega)]; rfl),hw,Int.toNat_natCast];have hd:s.drop i=s.getD i 0::s.drop (i+1):=by rw[List.drop_eq_getElem_cons hi]; simp[List.getD,hi]
   generalize s.getD i 0=b at *;have next:∀z:af,z=qb b→cI n s (zs (o++z)) ((i+1:Nat):Int) e0=e0 (zs (o++(s.drop i).flatMap qb)):=by
    intro z hz;have:=qb_len b;rw[ih (i+1) (o++z) (by omega) (by omega) (by rw[List.length_append,hz]; omega),hd,List.flatMap_cons,hz,List.append_assoc]
   have XH:decide (((zs o).length+2)*1≤140737488355328)=true:=aj (by rw[A0]; omega);have hl6:decide (((zs o).length+6)*1≤140737488355328)=true:=aj (by rw[A0]; omega);have hl1:decide (((zs o).length+1)*1≤140737488355328)=true:=aj (by rw[A0]; omega);have hb:=UInt8.toNat_lt b;have q34:((b.toNat:Int)==34)=decide (b.toNat=34):=Py _ 34;have q92:((b.toNat:Int)==92)=decide (b.toNat=92):=Py _ 92;have q8:((b.toNat:Int)==8)=decide (b.toNat=8):=Py _ 8;have q9:((b.toNat:Int)==9)=decide (b.toNat=9):=Py _ 9;have q10:((b.toNat:Int)==10)=decide (b.toNat=10):=Py _ 10;have q12:((b.toNat:Int)==12)=decide (b.toNat=12):=Py _ 12
   have q13:((b.toNat:Int)==13)=decide (b.toNat=13):=Py _ 13;rw[XH,hl6,hl1,q34,q92,q8,q9,q10,q12,q13];simp only[ao rfl];by_cases GH:b.toNat=34
   ·rw[aj GH,cond_true];simp only[cond_true];have hq : [92,b]=qb b:=by unfold qb; rw[if_pos (.inl GH)]
    have:=next _ hq
    rw[Cy]at this;exact this
   rw[aE GH,cond_false];by_cases Rz:b.toNat=92
   ·rw[aj Rz];simp only[cond_true];have hq : [92,b]=qb b:=by unfold qb; rw[if_pos (.inr Rz)]
    have:=next _ hq
    rw[Cy]at this;exact this
   rw[aE Rz];simp only[cond_false];by_cases h8:b.toNat=8
   ·rw[aj h8,cond_true];have:=next [92,98] (by unfold qb; simp[h8])
    rw[Cy]at this;exact this
   rw[aE h8,cond_false];by_cases h9:b.toNat=9
   ·rw[aj h9,cond_true];have:=next [92,116] (by unfold qb; simp[h9])
    rw[Cy]at this;exact this
   rw[aE h9,cond_false];by_cases h10:b.toNat=10
   ·rw[aj h10,cond_true];have:=next [92,110] (by unfold qb; simp[h10])
    rw[Cy]at this;exact this
   rw[aE h10,cond_false];by_cases h12:b.toNat=12
   ·rw[aj h12,cond_true];have:=next [92,102] (by unfold qb; simp[h12])
    rw[Cy]at this;exact this
   rw[aE h12,cond_false];by_cases h13:b.toNat=13
   ·rw[aj h13,cond_true];have:=next [92,114] (by unfold qb; simp[h13])
    rw[Cy]at this;exact this
   rw[aE h13,cond_false];by_cases h32:b.toNat<32
   ·rw[aj (show (b.toNat:Int)<32 by omega),cond_true];obtain ⟨k1,k2⟩:=hexI ⟨b.toNat,h32⟩;simp only at k1 k2;have hx:∀(x:Int) (f:Int→Option R),jx x f=bB (decide ((0:Int)≤(Int.tmod x 16))&&decide ((Int.tmod x 16)<(16:Int))) (f ((JM.getD ((Int.tmod x 16).toNat) 0).toNat:Int)):=fun _ _=>rfl
    rw[hx,k1,ao (by rw[aj (by omega),aj (by omega)]; rfl),hx,k2,ao (by rw[aj (by omega),aj (by omega)]; rfl),Int.toNat_natCast,Int.toNat_natCast];have:=next [92,117,48,48,JM.getD (b.toNat / 16) 0,JM.getD (b.toNat % 16) 0] (by unfold qb; simp[GH,Rz,h8,h9,h10,h12,h13,h32])
    rw[Cy]at this;exact this
   ·rw[aE (show ¬(b.toNat:Int)<32 by omega),cond_false];have:=next [b] (by unfold qb; simp[GH,Rz,h8,h9,h10,h12,h13,h32])
    rw[Cy]at this;exact this
  ·rw[aE (show ¬(i:Int)<(s.length:Int) by omega),cond_false];have:s.drop i = []:=List.drop_eq_nil_of_le (by omega);rw[this];simp
theorem GV {b:UInt8} (h:128≤b.toNat):qb b = [b]:=by
 unfold qb;rw[if_neg (by omega),if_neg (by omega),if_neg (by omega),if_neg (by omega),if_neg (by omega),if_neg (by omega),if_neg (by omega)]
theorem qb_enc {c:Nat} (hv:vr c):(enc c).flatMap qb=qc c:=by
 have jJ:=Yq hv;rcases G9 hv with ⟨h1,e⟩|⟨h0,h1,e⟩|⟨h0,h1,e⟩|⟨h0,e⟩
 ·rw[e];simp only[List.flatMap_cons,List.flatMap_nil,List.append_nil];have hu:=hP c (by omega);unfold qb qc r9;rw[hu];by_cases GH:c=34
  ·subst GH; rfl
  by_cases Rz:c=92
  ·subst Rz; rfl
  by_cases h8:c=8
  ·subst h8; rfl
  by_cases h9:c=9
  ·subst h9; rfl
  by_cases h10:c=10
  ·subst h10; rfl
  by_cases h12:c=12
  ·subst h12; rfl
  by_cases h13:c=13
  ·subst h13; rfl
  simp only[GH,Rz,h8,h9,h10,h12,h13,or_self,if_false,ne_eq,not_true_eq_false];by_cases h32:c<32
  ·simp only[h32,if_true]
  ·simp only[h32,if_false];rw[e]
 ·have hq:qc c=enc c:=qc_enc (by unfold r9; rw[if_neg (by omega),if_neg (by omega),if_neg (by omega),if_neg (by omega),if_neg (by omega),if_neg (by omega)]) (by omega);rw[hq,e];simp only[List.flatMap_cons,List.flatMap_nil,List.append_nil];rw[GV (by rw[hP _ (by omega)]; omega),GV (by rw[hP _ (by omega)]; omega)]; rfl
 ·have hq:qc c=enc c:=qc_enc (by unfold r9; rw[if_neg (by omega),if_neg (by omega),if_neg (by omega),if_neg (by omega),if_neg (by omega),if_neg (by omega)]) (by omega);rw[hq,e];simp only[List.flatMap_cons,List.flatMap_nil,List.append_nil];rw[GV (by rw[hP _ (by omega)]; omega),GV (by rw[hP _ (by omega)]; omega),GV (by rw[hP _ (by omega)]; omega)]; rfl
 ·have hq:qc c=enc c:=qc_enc (by unfold r9; rw[if_neg (by omega),if_neg (by omega),if_neg (by omega),if_neg (by omega),if_neg (by omega),if_neg (by omega)]) (by omega);rw[hq,e];simp only[List.flatMap_cons,List.flatMap_nil,List.append_nil];rw[GV (by rw[hP _ (by omega)]; omega),GV (by rw[hP _ (by omega)]; omega),GV (by rw[hP _ (by omega)]; omega),GV (by rw[hP _ (by omega)]; omega)]; rfl
theorem qb_encL:∀(rs:List Nat),(∀c∈rs,vr c)→(dV rs).flatMap qb=S4 rs
 | [],_=>rfl
 | c::rs,h=>by
  have e:dV (c::rs)=enc c++dV rs:=by simp[dV]
  have e2:S4 (c::rs)=qc c++S4 rs:=by simp[S4]
  rw[e,e2,List.flatMap_append,qb_enc (h c (by simp)),qb_encL rs (fun x hx=>h x (by simp[hx]))]
theorem unz (s:af):(List.map (fun n:Int=>UInt8.ofNat n.toNat) (zs s):af)=s:=v7 s
theorem refQuote_ok {R:Type} (rs:List Nat) (hr:∀c∈rs,vr c) (hl:rs.length≤20000000000) (k:af→Bool→Option R):dU (dV rs) k=k (qt rs) true:=by
 have hc:=HC rs hr;have hw:fE (dV rs)=true:=Bv.2 ⟨rs,hr,rfl⟩;have hq:=UC rs hr;have e:dU (dV rs) k=EH bU cI (dV rs) k:=rfl;rw[e];unfold EH;rw[O8 _ (by omega),hw,Bool.not_true,cond_false];have e34:([34]:List Int)=zs [34]:=rfl;rw[e34];have:=refQuote_loop (R:=R) (dV rs) (by omega) (fun jf=>bB (decide ((jf.length+1)*1≤140737488355328)) (k (List.map (fun n:Int=>UInt8.ofNat n.toNat) ((jf:List Int)++(zs [34]:List Int)):af) true)) (List.length (dV rs)+List.length (zs [34])+Int.natAbs 0+64) 0 [34] (by omega) (by omega) (by simp only[List.length_cons,List.length_nil]; omega);refine Eq.trans this ?_;simp only[List.drop_zero,qb_encL rs hr]
 rw[ao (aj (by rw[A0,List.length_append]; simp only[List.length_cons,List.length_nil]; omega)),←Cy,unz];rfl
theorem Zb {a b:Nat} (h:b≤a) (ha:a<256):IntKind.u8.wrap ((a:Int) - (b:Int))=((a - b:Nat):Int):=by
 have:(a:Int) - (b:Int)=((a - b:Nat):Int):=by omega
 rw[this,wrap8,Nat.mod_eq_of_lt (by omega)]
theorem four_round {R:Type} {s:af} {p k v:Nat} (hs:s.length≤9000000000000000) (hp:p≤s.length) (hk:k<p+4) (hi:k<s.length) (hv:v<4096) (cb:af→Int→Int→Int→Option R) (e0:Int→Option R) (e1:Int→Int→Option R) :
  mw cb s (p:Int) (v:Int) (k:Int) e0 e1=match Rx (s.getD k 0)with|some d=>cb s (p:Int) ((16*v+d:Nat):Int) ((k+1:Nat):Int)|none=>e1 (-1) (v:Int):=by
 unfold mw;have hw:IntKind.i64.wrap ((p:Int)+4)=((p+4:Nat):Int):=by rw[aK (by omega) (by omega)]; omega
 have hk1:IntKind.i64.wrap ((k:Int)+1)=((k+1:Nat):Int):=by rw[aK (by omega) (by omega)]; omega
 rw[hw,hk1,Int.toNat_natCast,aj (show (k:Int)<((p+4:Nat):Int) by omega),cond_true,ao (by rw[aj (by omega),aj (by omega)]; rfl)];dsimp only;have hb:=UInt8.toNat_lt (s.getD k 0);unfold Rx;simp only;generalize (s.getD k 0).toNat=b at *;have k1:IntKind.i64.wrap (16*(v:Int))=((16*v:Nat):Int):=by rw[aK (by omega) (by omega)]; omega
 have fin:∀(z:Int) (d:Nat),z=(d:Int)→d<16→IntKind.i64.wrap ((IntKind.i64.wrap (16*(v:Int)))+z)=((16*v+d:Nat):Int):=by
  intro z d hz hd;rw[k1,hz,aK (by omega) (by omega)];omega
 by_cases h1:48≤b∧b≤57
 ·rw[aj (show (b:Int)≥48 by omega),cond_true,aj (show (b:Int)≤57 by omega),cond_true,if_pos h1];have e:IntKind.u8.wrap ((b:Int) - 48)=((b - 48:Nat):Int):=Zb (b:=48) h1.1 hb;rw[fin _ (b - 48) (by rw[e,aK (by omega) (by omega)]) (by omega)]
 rw[if_neg h1];have j12:∀x z:Option R,(bif (decide ((b:Int)≥48))then (bif (decide ((b:Int)≤57))then x else z)else z)=z:=by
  intro x z;by_cases h:(b:Int)≥48
  ·rw[aj h,cond_true,aE (show ¬(b:Int)≤57 by omega),cond_false]
  ·rw[aE h,cond_false]
 simp only[cond_false];rw[j12];by_cases h2:65≤b∧b≤70
 ·rw[if_pos h2,aE (show ¬(b:Int)≥97 by omega),cond_false,aj (show (b:Int)≥65 by omega),cond_true,aj (show (b:Int)≤70 by omega),cond_true];have e:IntKind.u8.wrap ((b:Int) - 65)=((b - 65:Nat):Int):=Zb (b:=65) h2.1 hb;rw[fin _ (b - 55) (by rw[e,aK (n:=((b - 65:Nat):Int)) (by omega) (by omega),aK (by omega) (by omega)]; omega) (by omega)]
 rw[if_neg h2];have j65:∀x z:Option R,(bif (decide ((b:Int)≥65))then (bif (decide ((b:Int)≤70))then x else z)else z)=z:=by
  intro x z;by_cases h:(b:Int)≥65
  ·rw[aj h,cond_true,aE (show ¬(b:Int)≤70 by omega),cond_false]
  ·rw[aE h,cond_false]
 rw[j65];by_cases h3:97≤b∧b≤102
 ·rw[if_pos h3,aj (show (b:Int)≥97 by omega),cond_true,aj (show (b:Int)≤102 by omega),cond_true];have e:IntKind.u8.wrap ((b:Int) - 97)=((b - 97:Nat):Int):=Zb (b:=97) h3.1 hb;rw[fin _ (b - 87) (by rw[e,aK (n:=((b - 97:Nat):Int)) (by omega) (by omega),aK (by omega) (by omega)]; omega) (by omega)]
 rw[if_neg h3];by_cases h4:(b:Int)≥97
 ·rw[aj h4,cond_true,aE (show ¬(b:Int)≤102 by omega),cond_false]
 ·rw[aE h4,cond_false]
theorem Zc (s:af) (k m:Nat) (hm:0<m) (hk:k<s.length):(s.drop k).take m=s.getD k 0::(s.drop (k+1)).take (m - 1):=by
 obtain ⟨j,rfl⟩:∃j,m=j+1:=⟨m - 1,by omega⟩;rw[List.drop_eq_getElem_cons hk,List.take_succ_cons];simp[List.getD,hk]
theorem four_loop {R:Type} {s:af} {p:Nat} (hs:s.length≤9000000000000000) (hp:p+4≤s.length) (e0:Int→Option R) (e1:Int→Int→Option R):∀(m n k v:Nat),k+m=p+4→m<n→v<16 ^ (4 - m)→m≤4 →
  (match NL ((s.drop k).take m) v with
   | some u=>cE n s (p:Int) (v:Int) (k:Int) e0 e1=e0 (u:Int)
   | none=>∃w,cE n s (p:Int) (v:Int) (k:Int) e0 e1=e1 (-1) w):=by
 intro m
 induction m with
 | zero =>
  intro n k v hk hn hv _;obtain ⟨n,rfl⟩:∃j,n=j+1:=⟨n - 1,by omega⟩;rw[List.take_zero];simp only[NL];have e:cE (n+1) s (p:Int) (v:Int) (k:Int) e0 e1=mw (fun eh eB fb lZ=>cE n eh eB fb lZ e0 e1) s (p:Int) (v:Int) (k:Int) e0 e1:=rfl;rw[e];unfold mw;have hw:IntKind.i64.wrap ((p:Int)+4)=((p+4:Nat):Int):=by rw[aK (by omega) (by omega)]; omega
  rw[hw,aE (show ¬(k:Int)<((p+4:Nat):Int) by omega),cond_false]
 | succ m ih =>
  intro n k v hk hn hv hm;obtain ⟨n,rfl⟩:∃j,n=j+1:=⟨n - 1,by omega⟩;have hv2:v<4096:=by
   have:16 ^ (4 - (m+1))≤16 ^ 3:=Nat.pow_le_pow_right (by omega) (by omega);have e:(16:Nat) ^ 3=4096:=rfl;omega
  have e:cE (n+1) s (p:Int) (v:Int) (k:Int) e0 e1=mw (fun eh eB fb lZ=>cE n eh eB fb lZ e0 e1) s (p:Int) (v:Int) (k:Int) e0 e1:=rfl;rw[e,four_round hs (by omega) (by omega) (by omega) hv2,Zc s k (m+1) (by omega) (by omega)];simp only[NL,Nat.add_sub_cancel];cases hx:Rx (s.getD k 0)with
  | none=>exact ⟨_,rfl⟩
  | some d =>
   have hd:=hexv_lt hx;have ZU:16 ^ (4 - m)=16 ^ (4 - (m+1))*16:=by rw[←Nat.pow_succ]; congr 1; omega
   exact ih n (k+1) (16*v+d) (by omega) (by omega) (by omega) (by omega)
theorem four_ok {R:Type} (s:af) (p:Nat) (hs:s.length≤9000000000000000) (hp:p≤s.length) (f:Int→Option R):iv s (p:Int) f=match Gb (s.drop p)with|some (v,_)=>f (v:Int)|none=>f (-1):=by
 have e:iv s (p:Int) f=GS cE s (p:Int) f:=rfl;rw[e];unfold GS Gb;have hw:IntKind.i64.wrap ((p:Int)+4)=((p+4:Nat):Int):=by rw[aK (by omega) (by omega)]; omega
 rw[hw,List.length_drop];by_cases h:s.length - p<4
 ·rw[aj (show ((p+4:Nat):Int)>(s.length:Int) by omega),cond_true,if_pos h]
 ·rw[aE (show ¬((p+4:Nat):Int)>(s.length:Int) by omega),cond_false,if_neg h];have:=four_loop (R:=R) hs (show p+4≤s.length by omega) (fun yI=>f yI) (fun Fp KD=>f Fp) 4 (List.length s+Int.natAbs (p:Int)+Int.natAbs 0+Int.natAbs (p:Int)+64) p 0 rfl (by omega) (by omega) (by omega);cases hx:NL ((s.drop p).take 4) 0 with
  | some u=>rw[hx]at this; exact this
  | none=>rw[hx]at this; obtain ⟨w,h2⟩:=this; exact h2
theorem lor128:∀x:Fin 64,IntKind.u8.wrap (IntKind.i64.wrap ((BitVec.ofInt IntKind.i64.bits 128 ||| BitVec.ofInt IntKind.i64.bits (x.val:Int)).toNat:Int))=((128+x.val:Nat):Int):=by decide +kernel
theorem lor192:∀x:Fin 32,IntKind.u8.wrap (IntKind.i64.wrap ((BitVec.ofInt IntKind.i64.bits 192 ||| BitVec.ofInt IntKind.i64.bits (x.val:Int)).toNat:Int))=((192+x.val:Nat):Int):=by decide +kernel
theorem lor224:∀x:Fin 16,IntKind.u8.wrap (IntKind.i64.wrap ((BitVec.ofInt IntKind.i64.bits 224 ||| BitVec.ofInt IntKind.i64.bits (x.val:Int)).toNat:Int))=((224+x.val:Nat):Int):=by decide +kernel
theorem lor240:∀x:Fin 8,IntKind.u8.wrap (IntKind.i64.wrap ((BitVec.ofInt IntKind.i64.bits 240 ||| BitVec.ofInt IntKind.i64.bits (x.val:Int)).toNat:Int))=((240+x.val:Nat):Int):=by decide +kernel
theorem U5 (n:Nat) (h:n<1114112):IntKind.i64.wrap ((BitVec.ofInt IntKind.i64.bits (n:Int) &&& BitVec.ofInt IntKind.i64.bits 63).toNat:Int)=((n % 64:Nat):Int):=by
 have h2:(BitVec.ofInt IntKind.i64.bits 63).toNat=63:=by decide
 rw[BitVec.toNat_and,of64 n (by omega),h2];have h3:n &&& 63=n % 64:=Nat.and_two_pow_sub_one_eq_mod n 6;rw[h3,aK (by omega) (by omega)]
theorem laid_ok {R:Type} {c:Nat} (hv:vr c) (k:List Int→Option R):gR (c:Int) k=k (zs (enc c)):=by
 have jJ:=Yq hv;have e:gR (c:Int) k=GU (c:Int) k:=rfl;rw[e];unfold GU;have s6:=shr64 c 6 (by omega);have s12:=shr64 c 12 (by omega);have s18:=shr64 c 18 (by omega);have p6:c / 2 ^ 6=c / 64:=rfl;have p12:c / 2 ^ 12=c / 4096:=rfl;have p18:c / 2 ^ 18=c / 262144:=rfl;rw[p6]at s6; rw[p12]at s12; rw[p18]at s18;have cn:∀x:Nat,x<64→IntKind.u8.wrap (IntKind.i64.wrap ((BitVec.ofInt IntKind.i64.bits 128 ||| BitVec.ofInt IntKind.i64.bits (x:Int)).toNat:Int))=((128+x:Nat):Int):=fun x hx=>lor128 ⟨x,hx⟩
 rcases G9 hv with ⟨h1,e⟩|⟨h0,h1,e⟩|⟨h0,h1,e⟩|⟨h0,e⟩ <;> rw[e]
 ·rw[aj (show (c:Int)<128 by omega),cond_true,wrap8,Nat.mod_eq_of_lt (by omega),zs_enc1 c (by omega)]
 ·rw[aE (show ¬(c:Int)<128 by omega),cond_false,aj (show (c:Int)<2048 by omega),cond_true,s6,U5 c jJ,cn _ (by omega)];have l:=lor192 ⟨c / 64,by omega⟩;simp only at l;rw[l];simp only[zs,List.map_cons,List.map_nil,pw (192+c / 64) (by omega),pw (128+c % 64) (by omega)]
 ·rw[aE (show ¬(c:Int)<128 by omega),cond_false,aE (show ¬(c:Int)<2048 by omega),cond_false,aj (show (c:Int)<65536 by omega),cond_true,s6,s12,U5 c jJ,U5 (c / 64) (by omega),cn _ (by omega),cn _ (by omega)];have l:=lor224 ⟨c / 4096,by omega⟩;simp only at l;rw[l];simp only[zs,List.map_cons,List.map_nil,pw (224+c / 4096) (by omega),pw (128+c % 64) (by omega),pw (128+c / 64 % 64) (by omega)]
 ·rw[aE (show ¬(c:Int)<128 by omega),cond_false,aE (show ¬(c:Int)<2048 by omega),cond_false,aE (show ¬(c:Int)<65536 by omega),cond_false,s6,s12,s18,U5 c jJ,U5 (c / 64) (by omega),U5 (c / 4096) (by omega),cn _ (by omega),cn _ (by omega),cn _ (by omega)];have l:=lor240 ⟨c / 262144,by omega⟩;simp only at l;rw[l];simp only[zs,List.map_cons,List.map_nil,pw (240+c / 262144) (by omega),pw (128+c % 64) (by omega),pw (128+c / 64 % 64) (by omega),pw (128+c / 4096 % 64) (by omega)]
end Go.Proofs.YtmlkkgfenfdndaaGreatDoor
end
