/-
  JsonAgain: for every input whose bulk is at most 1048576 the law returns true, and each argument reads behind the call as it read before; part 8 of 9 of the proof: an interpreter of the model's code over typed data, proved sound; the functions that the law reaches, printed as Lean functions and tied; the plain law. Own texts laid one behind the other.
-/
import Derived.Test.YtmlkkgfenfdndaaGreatDoorJsonAgainB7
set_option linter.unusedSimpArgs false
set_option linter.unnecessarySimpa false
set_option linter.unusedVariables false
set_option linter.unusedSectionVars false
/-
  Functions of the program as pure Lean functions, and the ties; printed by wip/tools/emit.py.
-/
set_option maxRecDepth 100000
namespace Go.Proofs.YtmlkkgfenfdndaaGreatDoor
open Go Go.ay

/-! ### (*humpyard/json.parser).value -/
abbrev ax (R:Type):Type:=Int→(List Token)→Int→(Json→(List Token)→Int→Option R)→Option R
abbrev cp:List bN := [.leaf (.ptr 0 0), .leaf (.int .i64)]
abbrev cq:List aH := [.cells [.sl .token, .int .i64]]
noncomputable def bK {R:Type} (fn:ax R):bN.av cp→aH.av cq→(V→az→Option R)→Option R:=fun x y k=>fn x.2.1 y.1.1 y.1.2.1 (fun q0 q1 q2=>k (.agg [.int .i64 q0.kind, .int .i64 q0.num.aB, .int .i64 q0.num.exp, .str q0.text, .sl .str q0.names .no, .sl .json q0.items .no]) [.cells [.sl .token q1 .no, .int .i64 q2]])
/-! ### (*humpyard/json.parser).parts$1 -/
abbrev eZ (R:Type):Type:=Bool→Int→Int→Int→aj→(List aj)→Nat→Int→(List Json)→(List Token)→Int→(Bool→Int→Int→Int→aj→(List aj)→Nat→Int→(List Token)→Int→(List Json)→Option R)→(Bool→Int→Int→Int→aj→(List aj)→Nat→Int→(List Json)→(List Token)→Int→Option R)→(Bool→Int→Int→Int→aj→(List aj)→Nat→Int→(List Token)→Int→(List Json)→Option R)→(Bool→Int→Int→Int→aj→(List aj)→Nat→Int→(List Json)→(List Token)→Int→Option R)→Option R
abbrev lL:List bN := [.leaf (.ptr 0 0), .leaf (.ptr 1 0), .leaf (.ptr 2 0), .leaf (.ptr 3 0)]
abbrev lM:List aH := [.cells [.bool], .cells [.int .i64, .int .i64, .int .i64, .str, .MP .str 4, .row 5], .cells [.ptr 6 0], .cells [.int .i64], .tok, .row .json, .cells [.sl .token, .int .i64]]
noncomputable def sN {R:Type} (fn:eZ R):bN.av lL→aH.av lM→(V→az→Option R)→Option R:=fun x y k=>fn y.1.1 y.2.1.1 y.2.1.2.1 y.2.1.2.2.1 y.2.1.2.2.2.1 y.2.1.2.2.2.2.1 y.2.1.2.2.2.2.2.1 y.2.2.2.1.1 y.2.2.2.2.2.1 y.2.2.2.2.2.2.1.1 y.2.2.2.2.2.2.1.2.1 (fun q0 q1 q2 q3 q4 q5 q6 q7 q8 q9 NF=>k (.tuple []) [.cells [.bool q0], .cells [.int .i64 q1, .int .i64 q2, .int .i64 q3, .str q4, .sl .str q5 (.own 7), .row 8 q6], .cells [.ptr 6 0], .cells [.int .i64 q7], .dead, .dead, .cells [.sl .token q8 .no, .int .i64 q9], .tok, .row .json NF]) (fun q0 q1 q2 q3 q4 q5 q6 q7 q8 q9 NF=>k (.tuple []) [.cells [.bool q0], .cells [.int .i64 q1, .int .i64 q2, .int .i64 q3, .str q4, .sl .str q5 (.own 7), .row 5 q6], .cells [.ptr 6 0], .cells [.int .i64 q7], .dead, .row .json q8, .cells [.sl .token q9 .no, .int .i64 NF], .tok]) (fun q0 q1 q2 q3 q4 q5 q6 q7 q8 q9 NF=>k (.tuple []) [.cells [.bool q0], .cells [.int .i64 q1, .int .i64 q2, .int .i64 q3, .str q4, .sl .str q5 (.own 4), .row 7 q6], .cells [.ptr 6 0], .cells [.int .i64 q7], .tok, .dead, .cells [.sl .token q8 .no, .int .i64 q9], .row .json NF]) (fun q0 q1 q2 q3 q4 q5 q6 q7 q8 q9 NF=>k (.tuple []) [.cells [.bool q0], .cells [.int .i64 q1, .int .i64 q2, .int .i64 q3, .str q4, .sl .str q5 (.own 4), .row 5 q6], .cells [.ptr 6 0], .cells [.int .i64 q7], .tok, .row .json q8, .cells [.sl .token q9 .no, .int .i64 NF]])
noncomputable def lN (R:Type) (cE:ke R) (ae:ax R):Env R:=fun i=>match i with
  | 90=>some (false,(aA nD nE (vo cE) bg))
  | 42=>some (false,(aA cp cq (bK ae) bg))
  | _=>none
theorem AI (R:Type) (ae:ax R) (bT:ay.Spec.Ok Tryz.prog 42 (aA cp cq (bK ae) bg)):p6 Tryz.prog (lN R cE ae):=by
  intro i b sp h
  unfold lN at h
  split at h
  · cases h; exact ⟨(Ce R _ (aO _)),fun _ h=>nomatch h⟩
  · cases h; exact ⟨bT,fun _ h=>nomatch h⟩
  · cases h

noncomputable def tF (R:Type):Nat→Option (Hint × cr R):=fun i=>match i with
  | _=>none

noncomputable def eC {R:Type} (cE:ke R) (ae:ax R) (x1:Bool) (x2:Int) (x3:Int) (x4:Int) (x5:aj) (x6:List aj) (x7:Nat) (x8:Int) (x9:List Json) (ym:List Token) (Oe:Int) (k0:Bool→Int→Int→Int→aj→(List aj)→Nat→Int→(List Token)→Int→(List Json)→Option R) (k1:Bool→Int→Int→Int→aj→(List aj)→Nat→Int→(List Json)→(List Token)→Int→Option R) (k2:Bool→Int→Int→Int→aj→(List aj)→Nat→Int→(List Token)→Int→(List Json)→Option R) (k3:Bool→Int→Int→Int→aj→(List aj)→Nat→Int→(List Json)→(List Token)→Int→Option R):Option R :=
  bif x1 then (cE x6 ym Oe (fun Aw E0 uT=>cU (decide ((x6.length+1)*16≤140737488355328)) (bif (uT==0)then (ae (IntKind.i64.wrap (x8+1)) E0 uT (fun F1 GU JE=>cU (decide ((x9.length+1)*88≤140737488355328)) (cU (decide ((0:Int)≤(x7:Int))&&decide ((x7:Int)<(x9.length+1))) (cU (decide ((x7:Int).toNat<(x9++([(⟨0,⟨0,0⟩,([]:aj),([]:List aj),([]:List Json)⟩:Json)]:List Json)).length)) (k0 x1 x2 x3 x4 x5 (x6++([Aw]:List aj)) (x9.length+1) x8 GU JE ((x9++([(⟨0,⟨0,0⟩,([]:aj),([]:List aj),([]:List Json)⟩:Json)]:List Json)).set ((x7:Int).toNat) (⟨F1.kind,⟨F1.num.aB,F1.num.exp⟩,F1.text,F1.names,F1.items⟩:Json)))))))else (k1 x1 x2 x3 x4 x5 (x6++([Aw]:List aj)) x7 x8 x9 E0 uT))))else (bif (Oe==0)then (ae (IntKind.i64.wrap (x8+1)) ym Oe (fun GA KR LK=>cU (decide ((x9.length+1)*88≤140737488355328)) (cU (decide ((0:Int)≤(x7:Int))&&decide ((x7:Int)<(x9.length+1))) (cU (decide ((x7:Int).toNat<(x9++([(⟨0,⟨0,0⟩,([]:aj),([]:List aj),([]:List Json)⟩:Json)]:List Json)).length)) (k2 x1 x2 x3 x4 x5 x6 (x9.length+1) x8 KR LK ((x9++([(⟨0,⟨0,0⟩,([]:aj),([]:List aj),([]:List Json)⟩:Json)]:List Json)).set ((x7:Int).toNat) (⟨GA.kind,⟨GA.num.aB,GA.num.exp⟩,GA.text,GA.names,GA.items⟩:Json)))))))else (k3 x1 x2 x3 x4 x5 x6 x7 x8 x9 ym Oe))
noncomputable def bf {R:Type} (ae:ax R):eZ R:=fun x1 x2 x3 x4 x5 x6 x7 x8 x9 ym Oe k0 k1 k2 k3=>eC cE ae x1 x2 x3 x4 x5 x6 x7 x8 x9 ym Oe k0 k1 k2 k3
theorem BF {R:Type} (cE:ke R) (ae:ax R) (x1:Bool) (x2:Int) (x3:Int) (x4:Int) (x5:aj) (x6:List aj) (x7:Nat) (x8:Int) (x9:List Json) (ym:List Token) (Oe:Int) (k:V→az→Option R):iP (tt.mode [.json]) (lN R cE ae) (tF R) false Tryz.f89 (aK Tryz.f89) [.ptr 0 0, .ptr 1 0, .ptr 2 0, .ptr 3 0] [.cells [.bool x1], .cells [.int .i64 x2, .int .i64 x3, .int .i64 x4, .str x5, .sl .str x6 (.own 4), .row 5 x7], .cells [.ptr 6 0], .cells [.int .i64 x8], .tok, .row .json x9, .cells [.sl .token ym .no, .int .i64 Oe]] k =
    eC cE ae x1 x2 x3 x4 x5 x6 x7 x8 x9 ym Oe (fun q0 q1 q2 q3 q4 q5 q6 q7 q8 q9 NF=>k (.tuple []) [.cells [.bool q0], .cells [.int .i64 q1, .int .i64 q2, .int .i64 q3, .str q4, .sl .str q5 (.own 7), .row 8 q6], .cells [.ptr 6 0], .cells [.int .i64 q7], .dead, .dead, .cells [.sl .token q8 .no, .int .i64 q9], .tok, .row .json NF]) (fun q0 q1 q2 q3 q4 q5 q6 q7 q8 q9 NF=>k (.tuple []) [.cells [.bool q0], .cells [.int .i64 q1, .int .i64 q2, .int .i64 q3, .str q4, .sl .str q5 (.own 7), .row 5 q6], .cells [.ptr 6 0], .cells [.int .i64 q7], .dead, .row .json q8, .cells [.sl .token q9 .no, .int .i64 NF], .tok]) (fun q0 q1 q2 q3 q4 q5 q6 q7 q8 q9 NF=>k (.tuple []) [.cells [.bool q0], .cells [.int .i64 q1, .int .i64 q2, .int .i64 q3, .str q4, .sl .str q5 (.own 4), .row 7 q6], .cells [.ptr 6 0], .cells [.int .i64 q7], .tok, .dead, .cells [.sl .token q8 .no, .int .i64 q9], .row .json NF]) (fun q0 q1 q2 q3 q4 q5 q6 q7 q8 q9 NF=>k (.tuple []) [.cells [.bool q0], .cells [.int .i64 q1, .int .i64 q2, .int .i64 q3, .str q4, .sl .str q5 (.own 4), .row 5 q6], .cells [.ptr 6 0], .cells [.int .i64 q7], .tok, .row .json q8, .cells [.sl .token q9 .no, .int .i64 NF]]):=by kernel_rfl
theorem zd (R:Type) (ae:ax R):∀a∈aP (aK Tryz.f89),cR (tt.mode [.json]) (lN R cE ae) (tF R) 7 a:=by
  refine bG 0 (by kernel_rfl) fun i hi => ?_
  omega
theorem Ak (R:Type) (ae:ax R) (bT:ay.Spec.Ok Tryz.prog 42 (aA cp cq (bK ae) bg)) (other:ay.Spec R) (ho:ay.Spec.Ok Tryz.prog 89 other):ay.Spec.Ok Tryz.prog 89 (aA lL lM (sN (bf ae)) other) :=
  bu ho (bj (TT.mode [.json]) mixed (AI R ae bT) (keep:=false) rfl rfl rfl rfl 7 (zd R ae)) fun (x:bN.av lL) (y:aH.av lM) k=>BF cE ae y.1.1 y.2.1.1 y.2.1.2.1 y.2.1.2.2.1 y.2.1.2.2.2.1 y.2.1.2.2.2.2.1 y.2.1.2.2.2.2.2.1 y.2.2.2.1.1 y.2.2.2.2.2.1 y.2.2.2.2.2.2.1.1 y.2.2.2.2.2.2.1.2.1 k

/-! ### (*humpyard/json.parser).list -/
abbrev kf (R:Type):Type:=aj→(List Token)→Int→Bool→Int→Int→Int→aj→Int→((List Token)→Int→Bool→Int→Int→Int→aj→Int→Option R)→((List Token)→Int→Bool→Int→Int→Int→aj→(List aj)→Nat→Int→(List Json)→Option R)→Option R
abbrev nG:List bN := [.leaf (.ptr 0 0), .leaf (.str), .func 89 [] [.ptr 1 0, .ptr 2 0, .ptr 3 0, .ptr 4 0]]
abbrev nH:List aH := [.cells [.sl .token, .int .i64], .cells [.bool], .cells [.int .i64, .int .i64, .int .i64, .str, .cJ, .cJ], .cells [.ptr 0 0], .cells [.int .i64]]
noncomputable def vp {R:Type} (fn:kf R):bN.av nG→aH.av nH→(V→az→Option R)→Option R:=fun x y k=>fn x.2.1 y.1.1 y.1.2.1 y.2.1.1 y.2.2.1.1 y.2.2.1.2.1 y.2.2.1.2.2.1 y.2.2.1.2.2.2.1 y.2.2.2.2.1.1 (fun q0 q1 q2 q3 q4 q5 q6 q7=>k (.tuple []) [.cells [.sl .token q0 .no, .int .i64 q1], .cells [.bool q2], .cells [.int .i64 q3, .int .i64 q4, .int .i64 q5, .str q6, .cJ, .cJ], .cells [.ptr 0 0], .cells [.int .i64 q7]]) (fun q0 q1 q2 q3 q4 q5 q6 q7 q8 q9 NF=>k (.tuple []) [.cells [.sl .token q0 .no, .int .i64 q1], .cells [.bool q2], .cells [.int .i64 q3, .int .i64 q4, .int .i64 q5, .str q6, .sl .str q7 (.own 5), .row 6 q8], .cells [.ptr 0 0], .cells [.int .i64 q9], .tok, .row .json NF])
abbrev fA (R:Type):Type:=Nat→aj→(List Token)→Int→Bool→Int→Int→Int→aj→(List aj)→Nat→Int→(List Json)→((List Token)→Int→Bool→Int→Int→Int→aj→(List aj)→Nat→Int→(List Json)→Option R)→Option R
noncomputable def gC (R:Type) (ak:bY R) (bf:eZ R) (aq:du R):Env R:=fun i=>match i with
  | 43=>some (false,(aA gA gB (kb ak) bg))
  | 89=>some (false,(aA lL lM (sN bf) bg))
  | 122=>some (false,(aA kM kN (pL aq) bg))
  | _=>none
theorem CI (R:Type) (ae:ax R) (bT:ay.Spec.Ok Tryz.prog 42 (aA cp cq (bK ae) bg)):p6 Tryz.prog (gC R ak (bf ae) aq):=by
  intro i b sp h
  unfold gC at h
  split at h
  · cases h; exact ⟨(lH R _ (aO _)),fun _ h=>nomatch h⟩
  · cases h; exact ⟨(Ak R ae bT _ (aO _)),fun _ h=>nomatch h⟩
  · cases h; exact ⟨(tE R _ (aO _)),fun _ h=>nomatch h⟩
  · cases h

noncomputable def nZ {R:Type} (ak:bY R) (bf:eZ R) (aq:du R) (fy:aj→(List Token)→Int→Bool→Int→Int→Int→aj→(List aj)→Nat→Int→(List Json)→Option R) (NG:aj) (Vt:List Token) (pX:Int) (tG:Bool) (nj:Int) (tH:Int) (C1:Int) (AV:aj) (x21:List aj) (x22:Nat) (x23:Int) (XY:List Json) (e0:(List Token)→Int→Bool→Int→Int→Int→aj→(List aj)→Nat→Int→(List Json)→Option R):Option R :=
  bf tG nj tH C1 AV x21 x22 x23 XY Vt pX (fun GB Jb Jc JF OH Ob QJ Oc y33 y34 y35=>bif (y34 != 0)then (e0 y33 y34 GB Jb Jc JF OH Ob QJ Oc y35)else (aq NG y33 y34 (fun y69 y70 y71=>bif y69 then (e0 y70 y71 GB Jb Jc JF OH Ob QJ Oc y35)else (aq ([44]:aj) y70 y71 (fun y75 y76 y77=>bif (!y75)then (ak 40 y76 y77 (fun y78 y79=>e0 y78 y79 GB Jb Jc JF OH Ob QJ Oc y35))else (fy NG y76 y77 GB Jb Jc JF OH Ob QJ Oc y35)))))) (fun XT Un Xc XU XV XW Pr Sk Sl XX Xd=>bif (Xd != 0)then (e0 XX Xd XT Un Xc XU XV XW Pr Sk Sl)else (aq NG XX Xd (fun y80 y81 y82=>bif y80 then (e0 y81 y82 XT Un Xc XU XV XW Pr Sk Sl)else (aq ([44]:aj) y81 y82 (fun y86 y87 y88=>bif (!y86)then (ak 40 y87 y88 (fun y89 y90=>e0 y89 y90 XT Un Xc XU XV XW Pr Sk Sl))else (fy NG y87 y88 XT Un Xc XU XV XW Pr Sk Sl)))))) (fun OJ X0 Z1 Z2 Z3 X1 Z4 Z5 y55 Xe Xf=>bif (Xe != 0)then (e0 y55 Xe OJ X0 Z1 Z2 Z3 X1 Z4 Z5 Xf)else (aq NG y55 Xe (fun y91 y92 y93=>bif y91 then (e0 y92 y93 OJ X0 Z1 Z2 Z3 X1 Z4 Z5 Xf)else (aq ([44]:aj) y92 y93 (fun y97 y98 y99=>bif (!y97)then (ak 40 y98 y99 (fun y100 y101=>e0 y100 y101 OJ X0 Z1 Z2 Z3 X1 Z4 Z5 Xf))else (fy NG y98 y99 OJ X0 Z1 Z2 Z3 X1 Z4 Z5 Xf)))))) (fun Xg Uo Vr y61 y62 y63 y64 y65 y66 y67 y68=>bif (y68 != 0)then (e0 y67 y68 Xg Uo Vr y61 y62 y63 y64 y65 y66)else (aq NG y67 y68 (fun y102 y103 y104=>bif y102 then (e0 y103 y104 Xg Uo Vr y61 y62 y63 y64 y65 y66)else (aq ([44]:aj) y103 y104 (fun y108 y109 y110=>bif (!y108)then (ak 40 y109 y110 (fun y111 y112=>e0 y111 y112 Xg Uo Vr y61 y62 y63 y64 y65 y66))else (fy NG y109 y110 Xg Uo Vr y61 y62 y63 y64 y65 y66))))))
noncomputable def aL {R:Type} (ae:ax R):fA R
  | 0,_,_,_,_,_,_,_,_,_,_,_,_,_=>none
  | n+1,lY,lZ,mF,tQ,EB,EC,Li,Lj,Lk,Ll,AB,Gi,e0=>nZ ak (bf ae) aq (fun lY lZ mF tQ EB EC Li Lj Lk Ll AB Gi=>aL ae n lY lZ mF tQ EB EC Li Lj Lk Ll AB Gi e0) lY lZ mF tQ EB EC Li Lj Lk Ll AB Gi e0
noncomputable def la:Hint := { live := [0,1,2],own := [],rows := [],cells := [(2,4, .str,false),(2,5, .json,true)],drop := [],out := [] }
abbrev ef:Type:=aj × (List Token) × Int × Bool × Int × Int × Int × aj × (List aj) × Nat × Int × (List Json)
noncomputable def jS:ef→St:=fun d=>⟨[.ptr 0 0, .str d.1, .func 89 [] [.ptr 1 0, .ptr 2 0, .ptr 3 0, .ptr 4 0], .undef, .undef, .undef, .undef, .undef, .undef, .undef, .undef, .undef, .undef, .undef, .undef, .undef, .undef, .undef, .undef, .undef, .undef, .undef, .undef, .undef, .undef, .undef], [.cells [.sl .token d.2.1 .no, .int .i64 d.2.2.1], .cells [.bool d.2.2.2.1], .cells [.int .i64 d.2.2.2.2.1, .int .i64 d.2.2.2.2.2.1, .int .i64 d.2.2.2.2.2.2.1, .str d.2.2.2.2.2.2.2.1, .sl .str d.2.2.2.2.2.2.2.2.1 (.own 5), .row 6 d.2.2.2.2.2.2.2.2.2.1], .cells [.ptr 0 0], .cells [.int .i64 d.2.2.2.2.2.2.2.2.2.2.1], .tok, .row .json d.2.2.2.2.2.2.2.2.2.2.2]⟩
noncomputable def nN {R:Type} (K:Ex→St→Option R) (q0:List Token) (q1:Int) (q2:Bool) (q3:Int) (q4:Int) (q5:Int) (q6:aj) (q7:List aj) (q8:Nat) (q9:Int) (NF:List Json):Option R:=K (.ret) ⟨[.undef, .undef, .undef, .undef, .undef, .undef, .undef, .undef, .undef, .undef, .undef, .undef, .undef, .undef, .undef, .undef, .undef, .undef, .undef, .undef, .undef, .undef, .undef, .undef, .undef, .undef], [.cells [.sl .token q0 .no, .int .i64 q1], .cells [.bool q2], .cells [.int .i64 q3, .int .i64 q4, .int .i64 q5, .str q6, .sl .str q7 (.own 5), .row 6 q8], .cells [.ptr 0 0], .cells [.int .i64 q9], .tok, .row .json NF]⟩
noncomputable def n0 {R:Type} (ak:bY R) (bf:eZ R) (aq:du R) (K:Ex→St→Option R) (rc:ef→Option R) (d:ef):Option R:=nZ ak bf aq (fun z0 z1 z2 z3 z4 z5 z6 z7 z8 z9 QL wc=>rc (z0,z1,z2,z3,z4,z5,z6,z7,z8,z9,QL,wc)) d.1 d.2.1 d.2.2.1 d.2.2.2.1 d.2.2.2.2.1 d.2.2.2.2.2.1 d.2.2.2.2.2.2.1 d.2.2.2.2.2.2.2.1 d.2.2.2.2.2.2.2.2.1 d.2.2.2.2.2.2.2.2.2.1 d.2.2.2.2.2.2.2.2.2.2.1 d.2.2.2.2.2.2.2.2.2.2.2 (nN K)
noncomputable def fZ {R:Type} (ae:ax R) (K:Ex→St→Option R) (n:Nat) (d:ef):Option R:=aL ae n d.1 d.2.1 d.2.2.1 d.2.2.2.1 d.2.2.2.2.1 d.2.2.2.2.2.1 d.2.2.2.2.2.2.1 d.2.2.2.2.2.2.2.1 d.2.2.2.2.2.2.2.2.1 d.2.2.2.2.2.2.2.2.2.1 d.2.2.2.2.2.2.2.2.2.2.1 d.2.2.2.2.2.2.2.2.2.2.2 (nN K)
abbrev eg:List bN := [.leaf (.ptr 0 0), .leaf (.str), .func 89 [] [.ptr 1 0, .ptr 2 0, .ptr 3 0, .ptr 4 0], .leaf (.undef), .leaf (.undef), .leaf (.undef), .leaf (.undef), .leaf (.undef), .leaf (.undef), .leaf (.undef), .leaf (.undef), .leaf (.undef), .leaf (.undef), .leaf (.undef), .leaf (.undef), .leaf (.undef), .leaf (.undef), .leaf (.undef), .leaf (.undef), .leaf (.undef), .leaf (.undef), .leaf (.undef), .leaf (.undef), .leaf (.undef), .leaf (.undef), .leaf (.undef)]
abbrev eh:List aH := [.cells [.sl .token, .int .i64], .cells [.bool], .cells [.int .i64, .int .i64, .int .i64, .str, .MP .str 5, .row 6], .cells [.ptr 0 0], .cells [.int .i64], .tok, .row .json]
noncomputable def n5 (x:bN.av eg) (y:aH.av eh):Nat:=(List.length x.2.1+List.length y.1.1+Int.natAbs y.1.2.1+Int.natAbs y.2.2.1.1+Int.natAbs y.2.2.1.2.1+Int.natAbs y.2.2.1.2.2.1+List.length y.2.2.1.2.2.2.1+List.length y.2.2.1.2.2.2.2.1+Int.natAbs y.2.2.2.2.1.1+List.length y.2.2.2.2.2.2.1+64)
noncomputable def n7 (x:bN.av eg) (y:aH.av eh):ef:=(x.2.1,y.1.1,y.1.2.1,y.2.1.1,y.2.2.1.1,y.2.2.1.2.1,y.2.2.1.2.2.1,y.2.2.1.2.2.2.1,y.2.2.1.2.2.2.2.1,y.2.2.1.2.2.2.2.2.1,y.2.2.2.2.1.1,y.2.2.2.2.2.2.1)
noncomputable def nO {R:Type} (L:fA R):bN.av eg→aH.av eh→(Ex→St→Option R)→Option R:=fun x y K=>L (n5 x y) x.2.1 y.1.1 y.1.2.1 y.2.1.1 y.2.2.1.1 y.2.2.1.2.1 y.2.2.1.2.2.1 y.2.2.1.2.2.2.1 y.2.2.1.2.2.2.2.1 y.2.2.1.2.2.2.2.2.1 y.2.2.2.2.1.1 y.2.2.2.2.2.2.1 (nN K)
noncomputable def kO (R:Type) (aL:fA R):Nat→Option (Hint × cr R):=fun i=>match i with
  | 1=>some (la,(gu eg eh (nO aL) qv))
  | _=>none

theorem ze {R:Type} (ak:bY R) (bf:eZ R) (aq:du R) (aL:fA R) (K:Ex→St→Option R) (rc:St→Option R) (d:ef):roundOf (tt.mode [.json]) (gC R ak bf aq) (kO R aL) 5 ((aP (aK Tryz.f88)).getD 0 .skip) la (jS d) rc K=n0 ak bf aq K (fun d=>rc (jS d)) d:=by kernel_rfl
theorem xR {R:Type} (ae:ax R) (K:Ex→St→Option R) (n:Nat) (d:ef):fZ ae K (n+1) d=n0 ak (bf ae) aq K (fZ ae K n) d:=by kernel_rfl
theorem xS {R:Type} (ae:ax R) (K:Ex→St→Option R) (d:ef):fZ ae K 0 d=none:=by kernel_rfl
theorem zf (x:bN.av eg) (y:aH.av eh):(⟨bN.cV eg x,aH.cV eh y⟩:St)=jS (n7 x y):=by kernel_rfl
theorem zg {R:Type} (ae:ax R) (x:bN.av eg) (y:aH.av eh) (K:Ex→St→Option R):nO (aL ae) x y K=fZ ae K (n5 x y) (n7 x y):=by kernel_rfl
theorem AJ {R:Type} (ae:ax R) (other:cr R) (ho:o3 (tt.mode [.json]) (gC R ak (bf ae) aq) (kO R (aL ae)) 5 ((aP (aK Tryz.f88)).getD 0 .skip) la other):o3 (tt.mode [.json]) (gC R ak (bf ae) aq) (kO R (aL ae)) 5 ((aP (aK Tryz.f88)).getD 0 .skip) la (gu eg eh (nO (aL ae)) other) :=
  gN (A:=fZ ae) ho (kB jS (n0 ak (bf ae) aq) (fZ ae) (xS ae) (ze ak (bf ae) aq (aL ae)) (xR ae)) n5 n7 zf (zg ae)

noncomputable def wJ {R:Type} (aq:du R) (aL:fA R) (x1:aj) (x2:List Token) (x3:Int) (x4:Bool) (x5:Int) (x6:Int) (x7:Int) (x8:aj) (x9:Int) (k0:(List Token)→Int→Bool→Int→Int→Int→aj→Int→Option R) (k1:(List Token)→Int→Bool→Int→Int→Int→aj→(List aj)→Nat→Int→(List Json)→Option R):Option R :=
  aq x1 x2 x3 (fun yJ wL Aw=>bif yJ then (k0 wL Aw x4 x5 x6 x7 x8 x9)else (aL (List.length x1+List.length wL+Int.natAbs Aw+Int.natAbs x5+Int.natAbs x6+Int.natAbs x7+List.length x8+List.length ([]:List aj)+Int.natAbs x9+List.length ([]:List Json)+64) x1 wL Aw x4 x5 x6 x7 x8 ([]:List aj) 0 x9 ([]:List Json) (fun y113 y114 y115 y116 y117 y118 y119 y120 y121 y122 y123=>k1 y113 y114 y115 y116 y117 y118 y119 y120 y121 y122 y123)))
noncomputable def bI {R:Type} (ae:ax R):kf R:=fun x1 x2 x3 x4 x5 x6 x7 x8 x9 k0 k1=>wJ aq (aL ae) x1 x2 x3 x4 x5 x6 x7 x8 x9 k0 k1
theorem Dl {R:Type} (ak:bY R) (bf:eZ R) (aq:du R) (aL:fA R) (x1:aj) (x2:List Token) (x3:Int) (x4:Bool) (x5:Int) (x6:Int) (x7:Int) (x8:aj) (x9:Int) (k:V→az→Option R):iP (tt.mode [.json]) (gC R ak bf aq) (kO R aL) false Tryz.f88 (aK Tryz.f88) [.ptr 0 0, .str x1, .func 89 [] [.ptr 1 0, .ptr 2 0, .ptr 3 0, .ptr 4 0]] [.cells [.sl .token x2 .no, .int .i64 x3], .cells [.bool x4], .cells [.int .i64 x5, .int .i64 x6, .int .i64 x7, .str x8, .cJ, .cJ], .cells [.ptr 0 0], .cells [.int .i64 x9]] k =
    wJ aq aL x1 x2 x3 x4 x5 x6 x7 x8 x9 (fun q0 q1 q2 q3 q4 q5 q6 q7=>k (.tuple []) [.cells [.sl .token q0 .no, .int .i64 q1], .cells [.bool q2], .cells [.int .i64 q3, .int .i64 q4, .int .i64 q5, .str q6, .cJ, .cJ], .cells [.ptr 0 0], .cells [.int .i64 q7]]) (fun q0 q1 q2 q3 q4 q5 q6 q7 q8 q9 NF=>k (.tuple []) [.cells [.sl .token q0 .no, .int .i64 q1], .cells [.bool q2], .cells [.int .i64 q3, .int .i64 q4, .int .i64 q5, .str q6, .sl .str q7 (.own 5), .row 6 q8], .cells [.ptr 0 0], .cells [.int .i64 q9], .tok, .row .json NF]):=by kernel_rfl
theorem BG (R:Type) (ae:ax R):∀a∈aP (aK Tryz.f88),cR (tt.mode [.json]) (gC R ak (bf ae) aq) (kO R (aL ae)) 5 a:=by
  refine bG 1 (by kernel_rfl) fun i hi => ?_
  match i,hi with
  | 0,_=>exact fC (by kernel_rfl) (AJ ae _ jc)
  | n+1,hi=>omega
theorem Cf (R:Type) (ae:ax R) (bT:ay.Spec.Ok Tryz.prog 42 (aA cp cq (bK ae) bg)) (other:ay.Spec R) (ho:ay.Spec.Ok Tryz.prog 88 other):ay.Spec.Ok Tryz.prog 88 (aA nG nH (vp (bI ae)) other) :=
  bu ho (bj (TT.mode [.json]) mixed (CI R ae bT) (keep:=false) rfl rfl rfl rfl 5 (BG R ae)) fun (x:bN.av nG) (y:aH.av nH) k=>Dl ak (bf ae) aq (aL ae) x.2.1 y.1.1 y.1.2.1 y.2.1.1 y.2.2.1.1 y.2.2.1.2.1 y.2.2.1.2.2.1 y.2.2.1.2.2.2.1 y.2.2.2.2.1.1 k

/-! ### (*humpyard/json.parser).parts -/
abbrev jF (R:Type):Type:=Bool→Int→(List Token)→Int→(Json→(List Token)→Int→Option R)→Option R
abbrev mS:List bN := [.leaf (.ptr 0 0), .leaf (.bool), .leaf (.int .i64)]
abbrev mT:List aH := [.cells [.sl .token, .int .i64]]
noncomputable def uk {R:Type} (fn:jF R):bN.av mS→aH.av mT→(V→az→Option R)→Option R:=fun x y k=>fn x.2.1 x.2.2.1 y.1.1 y.1.2.1 (fun q0 q1 q2=>k (.agg [.int .i64 q0.kind, .int .i64 q0.num.aB, .int .i64 q0.num.exp, .str q0.text, .sl .str q0.names .no, .sl .json q0.items .no]) [.cells [.sl .token q1 .no, .int .i64 q2]])
noncomputable def mU (R:Type) (bI:kf R):Env R:=fun i=>match i with
  | 88=>some (false,(aA nG nH (vp bI) bg))
  | _=>none
theorem Cg (R:Type) (ae:ax R) (bT:ay.Spec.Ok Tryz.prog 42 (aA cp cq (bK ae) bg)):p6 Tryz.prog (mU R (bI ae)):=by
  intro i b sp h
  unfold mU at h
  split at h
  · cases h; exact ⟨(Cf R ae bT _ (aO _)),fun _ h=>nomatch h⟩
  · cases h

noncomputable def vq (R:Type):Nat→Option (Hint × cr R):=fun i=>match i with
  | _=>none

noncomputable def vu {R:Type} (bI:kf R) (x1:Bool) (x2:Int) (x3:List Token) (x4:Int) (k0:Json→(List Token)→Int→Option R):Option R :=
  bif x1 then (bI ([125]:aj) x3 x4 x1 7 0 0 ([]:aj) x2 (fun y5 y6 y7 y8 y9 yJ wL Aw=>k0 (⟨y8,⟨y9,yJ⟩,wL,([]:List aj),([]:List Json)⟩:Json) y5 y6) (fun E0 uT F1 GU JE GA KR LK Cp Sg QI=>k0 (⟨GU,⟨JE,GA⟩,KR,LK,QI⟩:Json) E0 uT))else (bI ([93]:aj) x3 x4 x1 6 0 0 ([]:aj) x2 (fun y24 GB Jb Jc JF OH Ob QJ=>k0 (⟨Jc,⟨JF,OH⟩,Ob,([]:List aj),([]:List Json)⟩:Json) y24 GB) (fun Oc y33 y34 y35 XT Un Xc XU XV XW Pr=>k0 (⟨y35,⟨XT,Un⟩,Xc,XU,Pr⟩:Json) Oc y33))
noncomputable def cv {R:Type} (ae:ax R):jF R:=fun x1 x2 x3 x4 k0=>vu (bI ae) x1 x2 x3 x4 k0
theorem CJ {R:Type} (bI:kf R) (x1:Bool) (x2:Int) (x3:List Token) (x4:Int) (k:V→az→Option R):iP (tt.mode [.json]) (mU R bI) (vq R) false Tryz.f64 (aK Tryz.f64) [.ptr 0 0, .bool x1, .int .i64 x2] [.cells [.sl .token x3 .no, .int .i64 x4]] k =
    vu bI x1 x2 x3 x4 (fun q0 q1 q2=>k (.agg [.int .i64 q0.kind, .int .i64 q0.num.aB, .int .i64 q0.num.exp, .str q0.text, .sl .str q0.names .no, .sl .json q0.items .no]) [.cells [.sl .token q1 .no, .int .i64 q2]]):=by kernel_rfl
theorem AK (R:Type) (ae:ax R):∀a∈aP (aK Tryz.f64),cR (tt.mode [.json]) (mU R (bI ae)) (vq R) 1 a:=by
  refine bG 0 (by kernel_rfl) fun i hi => ?_
  omega
theorem BH (R:Type) (ae:ax R) (bT:ay.Spec.Ok Tryz.prog 42 (aA cp cq (bK ae) bg)) (other:ay.Spec R) (ho:ay.Spec.Ok Tryz.prog 64 other):ay.Spec.Ok Tryz.prog 64 (aA mS mT (uk (cv ae)) other) :=
  bu ho (bj (TT.mode [.json]) mixed (Cg R ae bT) (keep:=false) rfl rfl rfl rfl 1 (AK R ae)) fun (x:bN.av mS) (y:aH.av mT) k=>CJ (bI ae) x.2.1 x.2.2.1 y.1.1 y.1.2.1 k

noncomputable def mV (R:Type) (ak:bY R) (cv:jF R):Env R:=fun i=>match i with
  | 43=>some (false,(aA gA gB (kb ak) bg))
  | 64=>some (false,(aA mS mT (uk cv) bg))
  | _=>none
theorem Ch (R:Type) (ae:ax R) (bT:ay.Spec.Ok Tryz.prog 42 (aA cp cq (bK ae) bg)):p6 Tryz.prog (mV R ak (cv ae)):=by
  intro i b sp h
  unfold mV at h
  split at h
  · cases h; exact ⟨(lH R _ (aO _)),fun _ h=>nomatch h⟩
  · cases h; exact ⟨(BH R ae bT _ (aO _)),fun _ h=>nomatch h⟩
  · cases h

noncomputable def vv (R:Type):Nat→Option (Hint × cr R):=fun i=>match i with
  | _=>none

noncomputable def vw {R:Type} (ak:bY R) (cv:jF R) (x1:Int) (x2:List Token) (x3:Int) (k0:Json→(List Token)→Int→Option R):Option R :=
  cU (decide ((0:Int)<x2.length)) (let j20:=fun (z4:Bool)=>let j19:=fun (z9:List Token) (QL:Int)=>bif (QL != 0)then (k0 (⟨0,⟨0,0⟩,([]:aj),([]:List aj),([]:List Json)⟩:Json) z9 QL)else (cU (decide ((1:Int)≤z9.length)) (let j18:=bif ((x2.getD 0 (Ty.cn .token)).kind==3)then (k0 (⟨4,⟨(x2.getD 0 (Ty.cn .token)).num.aB,(x2.getD 0 (Ty.cn .token)).num.exp⟩,([]:aj),([]:List aj),([]:List Json)⟩:Json) (z9.drop 1) QL)else (k0 (⟨5,⟨0,0⟩,(x2.getD 0 (Ty.cn .token)).text,([]:List aj),([]:List Json)⟩:Json) (z9.drop 1) QL); let j17:=fun (wc:Bool)=>bif wc then (bif ((x2.getD 0 (Ty.cn .token)).kind==1)then (cv ((x2.getD 0 (Ty.cn .token)).text==([123]:aj)) x1 (z9.drop 1) QL (fun Aw E0 uT=>k0 (⟨Aw.kind,⟨Aw.num.aB,Aw.num.exp⟩,Aw.text,Aw.names,Aw.items⟩:Json) E0 uT))else (j18))else (let j16:=fun (z15:Bool)=>bif z15 then (bif ((x2.getD 0 (Ty.cn .token)).kind==4)then (k0 (⟨((nJ .str (.int .i64) ((x2.getD 0 (Ty.cn .token)).text) ([(([110,117,108,108]:aj),1),(([102,97,108,115,101]:aj),2),(([116,114,117,101]:aj),3)]:List (aj × Int))):Int),⟨0,0⟩,([]:aj),([]:List aj),([]:List Json)⟩:Json) (z9.drop 1) QL)else (j18))else (j18); bif ((x2.getD 0 (Ty.cn .token)).text==([110,117,108,108]:aj))then (j16 ((x2.getD 0 (Ty.cn .token)).text==([110,117,108,108]:aj)))else (bif ((x2.getD 0 (Ty.cn .token)).text==([102,97,108,115,101]:aj))then (j16 ((x2.getD 0 (Ty.cn .token)).text==([102,97,108,115,101]:aj)))else (j16 ((x2.getD 0 (Ty.cn .token)).text==([116,114,117,101]:aj))))); bif ((x2.getD 0 (Ty.cn .token)).text==([91]:aj))then (j17 ((x2.getD 0 (Ty.cn .token)).text==([91]:aj)))else (j17 ((x2.getD 0 (Ty.cn .token)).text==([123]:aj))))); bif (!z4)then (ak 40 x2 x3 (fun y5 y6=>j19 y5 y6))else (bif (decide (x1>(16:Int)))then (ak 41 x2 x3 (fun y7 y8=>j19 y7 y8))else (j19 x2 x3)); bif ((x2.getD 0 (Ty.cn .token)).kind==2)then (j20 true)else (bif ((x2.getD 0 (Ty.cn .token)).kind==3)then (j20 true)else (bif ((x2.getD 0 (Ty.cn .token)).kind==4)then (j20 true)else (bif ((x2.getD 0 (Ty.cn .token)).kind==1)then (bif ((x2.getD 0 (Ty.cn .token)).text==([91]:aj))then (j20 true)else (j20 ((x2.getD 0 (Ty.cn .token)).text==([123]:aj))))else (j20 false)))))
noncomputable def pM {R:Type} (ae:ax R):ax R:=fun x1 x2 x3 k0=>vw ak (cv ae) x1 x2 x3 k0
theorem CK {R:Type} (ak:bY R) (cv:jF R) (x1:Int) (x2:List Token) (x3:Int) (k:V→az→Option R):iP (tt.mode [.json]) (mV R ak cv) (vv R) false Tryz.f42 (aK Tryz.f42) [.ptr 0 0, .int .i64 x1] [.cells [.sl .token x2 .no, .int .i64 x3]] k =
    vw ak cv x1 x2 x3 (fun q0 q1 q2=>k (.agg [.int .i64 q0.kind, .int .i64 q0.num.aB, .int .i64 q0.num.exp, .str q0.text, .sl .str q0.names .no, .sl .json q0.items .no]) [.cells [.sl .token q1 .no, .int .i64 q2]]):=by kernel_rfl
theorem AL (R:Type) (ae:ax R):∀a∈aP (aK Tryz.f42),cR (tt.mode [.json]) (mV R ak (cv ae)) (vv R) 1 a:=by
  refine bG 0 (by kernel_rfl) fun i hi => ?_
  omega
theorem AM (R:Type) (ae:ax R) (bT:ay.Spec.Ok Tryz.prog 42 (aA cp cq (bK ae) bg)) (other:ay.Spec R) (ho:ay.Spec.Ok Tryz.prog 42 other):ay.Spec.Ok Tryz.prog 42 (aA cp cq (bK (pM ae)) other) :=
  bu ho (bj (TT.mode [.json]) mixed (Ch R ae bT) (keep:=false) rfl rfl rfl rfl 1 (AL R ae)) fun (x:bN.av cp) (y:aH.av cq) k=>CK ak (cv ae) x.2.1 y.1.1 y.1.2.1 k
noncomputable def bz {R:Type}:Nat→ax R
  | 0,_,_,_,_=>none
  | n+1,lY,lZ,mF,k0'=>pM (bz n) lY lZ mF k0'
theorem KU {R:Type} (n:Nat):bz (R:=R) (n+1)=pM (bz n):=by kernel_rfl
theorem BI (R:Type):∀n,ay.Spec.Ok Tryz.prog 42 (aA cp cq (bK (bz (R:=R) n)) bg) :=
  wB (run:=fun n=>bK (bz (R:=R) n)) (fun x y k=>by kernel_rfl) fun n hyp=>AM R (bz n) hyp bg (aO _)
noncomputable def cI {R:Type}:ax R:=fun x1 x2 x3 k0=>bz 40 x1 x2 x3 k0
theorem BJ (R:Type):bK (R:=R) cI=fun x y k=>bK (bz 40) x y k:=by kernel_rfl
theorem BK (R:Type) (other:ay.Spec R) (ho:ay.Spec.Ok Tryz.prog 42 other):ay.Spec.Ok Tryz.prog 42 (aA cp cq (bK cI) other) :=
  B3 (DI (run:=fun n=>bK (bz (R:=R) n)) (fun x y=>40) ho (BI R)) (BJ R)

end Go.Proofs.YtmlkkgfenfdndaaGreatDoor

/-
  Functions of the program as pure Lean functions, and the ties; printed by wip/tools/emit.py.
-/
set_option maxRecDepth 100000
namespace Go.Proofs.YtmlkkgfenfdndaaGreatDoor
open Go Go.ay

/-! ### humpyard/json.Parse -/
abbrev lr (R:Type):Type:=aj→(Json→Int→Int→Option R)→Option R
abbrev xT:List bN := [.leaf (.str)]
abbrev xU:List aH := []
noncomputable def Dm {R:Type} (fn:lr R):bN.av xT→aH.av xU→(V→az→Option R)→Option R:=fun x y k=>fn x.1 (fun q0 q1 q2=>k (.tuple [.agg [.int .i64 q0.kind, .int .i64 q0.num.aB, .int .i64 q0.num.exp, .str q0.text, .sl .str q0.names .no, .sl .json q0.items .no], .int .i64 q1, .int .i64 q2]) [])
noncomputable def BL (R:Type) (ak:bY R) (cI:ax R) (kv:vk R):Env R:=fun i=>match i with
  | 43=>some (false,(aA gA gB (kb ak) bg))
  | 42=>some (false,(aA cp cq (bK cI) bg))
  | 25=>some (true,(aA Bt Bu (Hp kv) bg))
  | _=>none
theorem NH (R:Type):p6 Tryz.prog (BL R ak cI kv):=by
  intro i b sp h
  unfold BL at h
  split at h
  · cases h; exact ⟨(lH R _ (aO _)),fun _ h=>nomatch h⟩
  · cases h; exact ⟨(BK R _ (aO _)),fun _ h=>nomatch h⟩
  · cases h; exact ⟨(Lo R _ (aO _)),fun h=>nomatch h⟩
  · cases h

noncomputable def Jx (R:Type):Nat→Option (Hint × cr R):=fun i=>match i with
  | _=>none

noncomputable def BM {R:Type} (ak:bY R) (cI:ax R) (kv:vk R) (x1:aj) (k0:Json→Int→Int→Option R):Option R :=
  kv x1 (fun y2 y3 y4=>bif (y3 != 0)then (k0 (⟨0,⟨0,0⟩,([]:aj),([]:List aj),([]:List Json)⟩:Json) y3 y4)else (cI 1 y2 0 (fun y5 y6 y7=>let j12:=fun (QL:List Token) (wc:Int)=>bif (wc != 0)then (cU (decide ((0:Int)<QL.length)) (k0 (⟨0,⟨0,0⟩,([]:aj),([]:List aj),([]:List Json)⟩:Json) wc ((QL.getD 0 (Ty.cn .token)).at_)))else (k0 (⟨y5.kind,⟨y5.num.aB,y5.num.exp⟩,y5.text,y5.names,y5.items⟩:Json) 0 0); cU (decide ((0:Int)<y6.length)) (bif ((y6.getD 0 (Ty.cn .token)).kind != 5)then (ak 40 y6 y7 (fun y8 y9=>j12 y8 y9))else (j12 y6 y7)))))
noncomputable def cS {R:Type}:lr R:=fun x1 k0=>BM ak cI kv x1 k0
theorem OP {R:Type} (ak:bY R) (cI:ax R) (kv:vk R) (x1:aj) (k:V→az→Option R):iP tt (BL R ak cI kv) (Jx R) false Tryz.f20 (aK Tryz.f20) [.str x1] [] k =
    BM ak cI kv x1 (fun q0 q1 q2=>k (.tuple [.agg [.int .i64 q0.kind, .int .i64 q0.num.aB, .int .i64 q0.num.exp, .str q0.text, .sl .str q0.names .no, .sl .json q0.items .no], .int .i64 q1, .int .i64 q2]) []):=by kernel_rfl
theorem Ks (R:Type):∀a∈aP (aK Tryz.f20),cR tt (BL R ak cI kv) (Jx R) 0 a:=by
  refine bG 0 (by kernel_rfl) fun i hi => ?_
  omega
theorem E6 (R:Type) (other:ay.Spec R) (ho:ay.Spec.Ok Tryz.prog 20 other):ay.Spec.Ok Tryz.prog 20 (aA xT xU (Dm cS) other) :=
  bu ho (bj TT mixed (NH R) (keep:=false) rfl rfl rfl rfl 0 (Ks R)) fun (x:bN.av xT) (y:aH.av xU) k=>OP ak cI kv x.1 k

/-! ### slices.Equal[[]string,string] -/
abbrev gX (R:Type):Type:=(List aj)→(List aj)→(Bool→Option R)→Option R
abbrev lb:List bN := [.leaf (.sl .str), .leaf (.sl .str)]
abbrev lg:List aH := []
noncomputable def r8 {R:Type} (fn:gX R):bN.av lb→aH.av lg→(V→az→Option R)→Option R:=fun x y k=>fn x.1 x.2.1 (fun q0=>k (.bool q0) [])
abbrev eK (R:Type):Type:=Nat→(List aj)→(List aj)→Int→Int→(Option R)→(Bool→Option R)→Option R
noncomputable def fa (R:Type):Env R:=fun i=>match i with
  | _=>none
theorem Al (R:Type):p6 Tryz.prog (fa R):=by
  intro i b sp h
  unfold fa at h
  split at h
  · cases h

noncomputable def iN {R:Type} (fy:(List aj)→(List aj)→Int→Int→Option R) (x3:List aj) (x4:List aj) (x5:Int) (x6:Int) (e0:Option R) (e1:Bool→Option R):Option R :=
  bif (decide (x6<x5))then (cU (decide ((0:Int)≤x6)&&decide (x6<x3.length)) (cU (decide ((0:Int)≤x6)&&decide (x6<x4.length)) (bif (!((x3.getD x6.toNat (Ty.cn .str))==(x4.getD x6.toNat (Ty.cn .str))))then (e1 false)else (fy x3 x4 x5 (IntKind.i64.wrap (x6+1))))))else (e0)
noncomputable def aT {R:Type}:eK R
  | 0,_,_,_,_,_,_=>none
  | n+1,lY,lZ,mF,tQ,e0,e1=>iN (fun lY lZ mF tQ=>aT n lY lZ mF tQ e0 e1) lY lZ mF tQ e0 e1
noncomputable def iO:Hint := { live := [0,1,12,13],own := [],rows := [],cells := [],drop := [],out := [4] }
abbrev dy:Type:=(List aj) × (List aj) × Int × Int
noncomputable def hJ:dy→St:=fun d=>⟨[.sl .str d.1 .no, .sl .str d.2.1 .no, .undef, .undef, .undef, .undef, .undef, .undef, .undef, .undef, .undef, .undef, .int .i64 d.2.2.1, .int .i64 d.2.2.2, .undef, .undef, .undef, .undef, .undef, .undef, .undef, .undef, .undef, .undef, .undef, .undef], []⟩
noncomputable def lO {R:Type} (K:Ex→St→Option R):Option R:=K (.exit 0) ⟨[.undef, .undef, .undef, .undef, .undef, .undef, .undef, .undef, .undef, .undef, .undef, .undef, .undef, .undef, .undef, .undef, .undef, .undef, .undef, .undef, .undef, .undef, .undef, .undef, .undef, .undef], []⟩
noncomputable def lP {R:Type} (K:Ex→St→Option R) (q0:Bool):Option R:=K (.ret) ⟨[.undef, .undef, .undef, .undef, .bool q0, .undef, .undef, .undef, .undef, .undef, .undef, .undef, .undef, .undef, .undef, .undef, .undef, .undef, .undef, .undef, .undef, .undef, .undef, .undef, .undef, .undef], []⟩
noncomputable def mj {R:Type} (K:Ex→St→Option R) (rc:dy→Option R) (d:dy):Option R:=iN (fun z0 z1 z2 z3=>rc (z0,z1,z2,z3)) d.1 d.2.1 d.2.2.1 d.2.2.2 (lO K) (lP K)
noncomputable def eV {R:Type} (K:Ex→St→Option R) (n:Nat) (d:dy):Option R:=aT n d.1 d.2.1 d.2.2.1 d.2.2.2 (lO K) (lP K)
abbrev dz:List bN := [.leaf (.sl .str), .leaf (.sl .str), .leaf (.undef), .leaf (.undef), .leaf (.undef), .leaf (.undef), .leaf (.undef), .leaf (.undef), .leaf (.undef), .leaf (.undef), .leaf (.undef), .leaf (.undef), .leaf (.int .i64), .leaf (.int .i64), .leaf (.undef), .leaf (.undef), .leaf (.undef), .leaf (.undef), .leaf (.undef), .leaf (.undef), .leaf (.undef), .leaf (.undef), .leaf (.undef), .leaf (.undef), .leaf (.undef), .leaf (.undef)]
abbrev dA:List aH := []
noncomputable def ml (x:bN.av dz) (y:aH.av dA):Nat:=(List.length x.1+List.length x.2.1+Int.natAbs x.2.2.2.2.2.2.2.2.2.2.2.2.1+Int.natAbs x.2.2.2.2.2.2.2.2.2.2.2.2.2.1+64)
noncomputable def mn (x:bN.av dz) (y:aH.av dA):dy:=(x.1,x.2.1,x.2.2.2.2.2.2.2.2.2.2.2.2.1,x.2.2.2.2.2.2.2.2.2.2.2.2.2.1)
noncomputable def lQ {R:Type} (L:eK R):bN.av dz→aH.av dA→(Ex→St→Option R)→Option R:=fun x y K=>L (ml x y) x.1 x.2.1 x.2.2.2.2.2.2.2.2.2.2.2.2.1 x.2.2.2.2.2.2.2.2.2.2.2.2.2.1 (lO K) (lP K)
noncomputable def iE (R:Type) (aT:eK R):Nat→Option (Hint × cr R):=fun i=>match i with
  | 4=>some (iO,(gu dz dA (lQ aT) qv))
  | _=>none

theorem wv {R:Type} (aT:eK R) (K:Ex→St→Option R) (rc:St→Option R) (d:dy):roundOf tt (fa R) (iE R aT) 0 ((aP (aK Tryz.f44)).getD 0 .skip) iO (hJ d) rc K=mj K (fun d=>rc (hJ d)) d:=by kernel_rfl
theorem uQ {R:Type} (K:Ex→St→Option R) (n:Nat) (d:dy):eV K (n+1) d=mj K (eV K n) d:=by kernel_rfl
theorem uR {R:Type} (K:Ex→St→Option R) (d:dy):eV K 0 d=none:=by kernel_rfl
theorem wx (x:bN.av dz) (y:aH.av dA):(⟨bN.cV dz x,aH.cV dA y⟩:St)=hJ (mn x y):=by kernel_rfl
theorem wy {R:Type} (x:bN.av dz) (y:aH.av dA) (K:Ex→St→Option R):lQ (aT) x y K=eV K (ml x y) (mn x y):=by kernel_rfl
theorem xV {R:Type} (other:cr R) (ho:o3 tt (fa R) (iE R aT) 0 ((aP (aK Tryz.f44)).getD 0 .skip) iO other):o3 tt (fa R) (iE R aT) 0 ((aP (aK Tryz.f44)).getD 0 .skip) iO (gu dz dA (lQ (aT)) other) :=
  gN (A:=eV) ho (kB hJ (mj) (eV) (uR) (wv aT) (uQ)) ml mn wx (wy)

noncomputable def sO {R:Type} (aT:eK R) (x1:List aj) (x2:List aj) (k0:Bool→Option R):Option R :=
  bif ((x1.length:Int) != (x2.length:Int))then (k0 false)else (aT (List.length x1+List.length x2+Int.natAbs (x1.length:Int)+Int.natAbs 0+64) x1 x2 (x1.length:Int) 0 (k0 true) (fun y7=>k0 y7))
noncomputable def cd {R:Type}:gX R:=fun x1 x2 k0=>sO aT x1 x2 k0
theorem AN {R:Type} (aT:eK R) (x1:List aj) (x2:List aj) (k:V→az→Option R):iP tt (fa R) (iE R aT) false Tryz.f44 (aK Tryz.f44) [.sl .str x1 .no, .sl .str x2 .no] [] k =
    sO aT x1 x2 (fun q0=>k (.bool q0) []):=by kernel_rfl
theorem yn (R:Type):∀a∈aP (aK Tryz.f44),cR tt (fa R) (iE R aT) 0 a:=by
  refine bG 1 (by kernel_rfl) fun i hi => ?_
  match i,hi with
  | 0,_=>exact fC (by kernel_rfl) (xV _ jc)
  | n+1,hi=>omega
theorem zh (R:Type) (other:ay.Spec R) (ho:ay.Spec.Ok Tryz.prog 44 other):ay.Spec.Ok Tryz.prog 44 (aA lb lg (r8 cd) other) :=
  bu ho (bj TT mixed (Al R) (keep:=false) rfl rfl rfl rfl 0 (yn R)) fun (x:bN.av lb) (y:aH.av lg) k=>AN aT x.1 x.2.1 k

/-! ### humpyard/json.Same -/
abbrev cw (R:Type):Type:=Json→Json→(Bool→Option R)→Option R
abbrev ma:List bN := [.agg [.int .i64, .int .i64, .int .i64, .str, .sl .str, .sl .json], .agg [.int .i64, .int .i64, .int .i64, .str, .sl .str, .sl .json]]
abbrev mb:List aH := []
noncomputable def iF {R:Type} (fn:cw R):bN.av ma→aH.av mb→(V→az→Option R)→Option R:=fun x y k=>fn (⟨x.1.1,⟨x.1.2.1,x.1.2.2.1⟩,x.1.2.2.2.1,x.1.2.2.2.2.1,x.1.2.2.2.2.2.1⟩:Json) (⟨x.2.1.1,⟨x.2.1.2.1,x.2.1.2.2.1⟩,x.2.1.2.2.2.1,x.2.1.2.2.2.2.1,x.2.1.2.2.2.2.2.1⟩:Json) (fun q0=>k (.bool q0) [])
/-! ### slices.EqualFunc[[]humpyard/api.Json,[]humpyard/api.Json,humpyard/api.Json,humpyard/api.Json] -/
abbrev dU (R:Type):Type:=(List Json)→(List Json)→(Bool→Option R)→Option R
abbrev fo:List bN := [.leaf (.sl .json), .leaf (.sl .json), .leaf (.fn 21)]
abbrev fp:List aH := []
noncomputable def mc {R:Type} (fn:dU R):bN.av fo→aH.av fp→(V→az→Option R)→Option R:=fun x y k=>fn x.1 x.2.1 (fun q0=>k (.bool q0) [])
abbrev cW (R:Type):Type:=Nat→(List Json)→(List Json)→Int→Int→(Option R)→(Bool→Option R)→Option R
noncomputable def cT (R:Type) (aF:cw R):Env R:=fun i=>match i with
  | 21=>some (true,(aA ma mb (iF aF) bg))
  | _=>none
theorem rF (R:Type) (aF:cw R) (pN:ay.Spec.Ok Tryz.prog 21 (aA ma mb (iF aF) bg)):p6 Tryz.prog (cT R aF):=by
  intro i b sp h
  unfold cT at h
  split at h
  · cases h; exact ⟨pN,fun h=>nomatch h⟩
  · cases h

noncomputable def da {R:Type} (aF:cw R) (fy:(List Json)→(List Json)→Int→Int→Option R) (x3:List Json) (x4:List Json) (x5:Int) (x6:Int) (e0:Option R) (e1:Bool→Option R):Option R :=
  bif (decide (x6<x5))then (cU (decide ((0:Int)≤x6)&&decide (x6<x4.length)) (cU (decide ((0:Int)≤x6)&&decide (x6<x3.length)) (aF (⟨(x4.getD x6.toNat (Ty.cn .json)).kind,⟨(x4.getD x6.toNat (Ty.cn .json)).num.aB,(x4.getD x6.toNat (Ty.cn .json)).num.exp⟩,(x4.getD x6.toNat (Ty.cn .json)).text,(x4.getD x6.toNat (Ty.cn .json)).names,(x4.getD x6.toNat (Ty.cn .json)).items⟩:Json) (⟨(x3.getD x6.toNat (Ty.cn .json)).kind,⟨(x3.getD x6.toNat (Ty.cn .json)).num.aB,(x3.getD x6.toNat (Ty.cn .json)).num.exp⟩,(x3.getD x6.toNat (Ty.cn .json)).text,(x3.getD x6.toNat (Ty.cn .json)).names,(x3.getD x6.toNat (Ty.cn .json)).items⟩:Json) (fun y7=>bif (!y7)then (e1 false)else (fy x3 x4 x5 (IntKind.i64.wrap (x6+1)))))))else (e0)
noncomputable def aw {R:Type} (aF:cw R):cW R
  | 0,_,_,_,_,_,_=>none
  | n+1,lY,lZ,mF,tQ,e0,e1=>da aF (fun lY lZ mF tQ=>aw aF n lY lZ mF tQ e0 e1) lY lZ mF tQ e0 e1
noncomputable def eM:Hint := { live := [1,2,15,16,17],own := [],rows := [],cells := [],drop := [],out := [6] }
abbrev bV:Type:=(List Json) × (List Json) × Int × Int
noncomputable def eA:bV→St:=fun d=>⟨[.undef, .sl .json d.1 .no, .func 21 [] [], .undef, .undef, .undef, .undef, .undef, .undef, .undef, .undef, .undef, .undef, .undef, .undef, .sl .json d.2.1 .no, .int .i64 d.2.2.1, .int .i64 d.2.2.2, .undef, .undef, .undef, .undef, .undef, .undef, .undef, .undef, .undef, .undef, .undef, .undef, .undef, .undef], []⟩
noncomputable def gg {R:Type} (K:Ex→St→Option R):Option R:=K (.exit 0) ⟨[.undef, .undef, .undef, .undef, .undef, .undef, .undef, .undef, .undef, .undef, .undef, .undef, .undef, .undef, .undef, .undef, .undef, .undef, .undef, .undef, .undef, .undef, .undef, .undef, .undef, .undef, .undef, .undef, .undef, .undef, .undef, .undef], []⟩
noncomputable def gh {R:Type} (K:Ex→St→Option R) (q0:Bool):Option R:=K (.ret) ⟨[.undef, .undef, .undef, .undef, .undef, .undef, .bool q0, .undef, .undef, .undef, .undef, .undef, .undef, .undef, .undef, .undef, .undef, .undef, .undef, .undef, .undef, .undef, .undef, .undef, .undef, .undef, .undef, .undef, .undef, .undef, .undef, .undef], []⟩
noncomputable def gD {R:Type} (aF:cw R) (K:Ex→St→Option R) (rc:bV→Option R) (d:bV):Option R:=da aF (fun z0 z1 z2 z3=>rc (z0,z1,z2,z3)) d.1 d.2.1 d.2.2.1 d.2.2.2 (gg K) (gh K)
noncomputable def db {R:Type} (aF:cw R) (K:Ex→St→Option R) (n:Nat) (d:bV):Option R:=aw aF n d.1 d.2.1 d.2.2.1 d.2.2.2 (gg K) (gh K)
abbrev bW:List bN := [.leaf (.undef), .leaf (.sl .json), .leaf (.fn 21), .leaf (.undef), .leaf (.undef), .leaf (.undef), .leaf (.undef), .leaf (.undef), .leaf (.undef), .leaf (.undef), .leaf (.undef), .leaf (.undef), .leaf (.undef), .leaf (.undef), .leaf (.undef), .leaf (.sl .json), .leaf (.int .i64), .leaf (.int .i64), .leaf (.undef), .leaf (.undef), .leaf (.undef), .leaf (.undef), .leaf (.undef), .leaf (.undef), .leaf (.undef), .leaf (.undef), .leaf (.undef), .leaf (.undef), .leaf (.undef), .leaf (.undef), .leaf (.undef), .leaf (.undef)]
abbrev bX:List aH := []
noncomputable def gE (x:bN.av bW) (y:aH.av bX):Nat:=(List.length x.2.1+List.length x.2.2.2.2.2.2.2.2.2.2.2.2.2.2.2.1+Int.natAbs x.2.2.2.2.2.2.2.2.2.2.2.2.2.2.2.2.1+Int.natAbs x.2.2.2.2.2.2.2.2.2.2.2.2.2.2.2.2.2.1+64)
noncomputable def gF (x:bN.av bW) (y:aH.av bX):bV:=(x.2.1,x.2.2.2.2.2.2.2.2.2.2.2.2.2.2.2.1,x.2.2.2.2.2.2.2.2.2.2.2.2.2.2.2.2.1,x.2.2.2.2.2.2.2.2.2.2.2.2.2.2.2.2.2.1)
noncomputable def gi {R:Type} (L:cW R):bN.av bW→aH.av bX→(Ex→St→Option R)→Option R:=fun x y K=>L (gE x y) x.2.1 x.2.2.2.2.2.2.2.2.2.2.2.2.2.2.2.1 x.2.2.2.2.2.2.2.2.2.2.2.2.2.2.2.2.1 x.2.2.2.2.2.2.2.2.2.2.2.2.2.2.2.2.2.1 (gg K) (gh K)
noncomputable def dW (R:Type) (aw:cW R):Nat→Option (Hint × cr R):=fun i=>match i with
  | 4=>some (eM,(gu bW bX (gi aw) qv))
  | _=>none

theorem pw {R:Type} (aF:cw R) (aw:cW R) (K:Ex→St→Option R) (rc:St→Option R) (d:bV):roundOf tt (cT R aF) (dW R aw) 0 ((aP (aK Tryz.f45)).getD 0 .skip) eM (eA d) rc K=gD aF K (fun d=>rc (eA d)) d:=by kernel_rfl
theorem oH {R:Type} (aF:cw R) (K:Ex→St→Option R) (n:Nat) (d:bV):db aF K (n+1) d=gD aF K (db aF K n) d:=by kernel_rfl
theorem oI {R:Type} (aF:cw R) (K:Ex→St→Option R) (d:bV):db aF K 0 d=none:=by kernel_rfl
theorem px (x:bN.av bW) (y:aH.av bX):(⟨bN.cV bW x,aH.cV bX y⟩:St)=eA (gF x y):=by kernel_rfl
theorem pz {R:Type} (aF:cw R) (x:bN.av bW) (y:aH.av bX) (K:Ex→St→Option R):gi (aw aF) x y K=db aF K (gE x y) (gF x y):=by kernel_rfl
theorem pY {R:Type} (aF:cw R) (other:cr R) (ho:o3 tt (cT R aF) (dW R (aw aF)) 0 ((aP (aK Tryz.f45)).getD 0 .skip) eM other):o3 tt (cT R aF) (dW R (aw aF)) 0 ((aP (aK Tryz.f45)).getD 0 .skip) eM (gu bW bX (gi (aw aF)) other) :=
  gN (A:=db aF) ho (kB eA (gD aF) (db aF) (oI aF) (pw aF (aw aF)) (oH aF)) gE gF px (pz aF)

noncomputable def mv {R:Type} (aw:cW R) (x1:List Json) (x2:List Json) (k0:Bool→Option R):Option R :=
  bif ((x1.length:Int) != (x2.length:Int))then (k0 false)else (aw (List.length x2+List.length x1+Int.natAbs (x1.length:Int)+Int.natAbs 0+64) x2 x1 (x1.length:Int) 0 (k0 true) (fun y8=>k0 y8))
noncomputable def bh {R:Type} (aF:cw R):dU R:=fun x1 x2 k0=>mv (aw aF) x1 x2 k0
theorem r9 {R:Type} (aF:cw R) (aw:cW R) (x1:List Json) (x2:List Json) (k:V→az→Option R):iP tt (cT R aF) (dW R aw) false Tryz.f45 (aK Tryz.f45) [.sl .json x1 .no, .sl .json x2 .no, .func 21 [] []] [] k =
    mv aw x1 x2 (fun q0=>k (.bool q0) []):=by kernel_rfl
theorem qI (R:Type) (aF:cw R):∀a∈aP (aK Tryz.f45),cR tt (cT R aF) (dW R (aw aF)) 0 a:=by
  refine bG 1 (by kernel_rfl) fun i hi => ?_
  match i,hi with
  | 0,_=>exact fC (by kernel_rfl) (pY aF _ jc)
  | n+1,hi=>omega
theorem qN (R:Type) (aF:cw R) (pN:ay.Spec.Ok Tryz.prog 21 (aA ma mb (iF aF) bg)) (other:ay.Spec R) (ho:ay.Spec.Ok Tryz.prog 45 other):ay.Spec.Ok Tryz.prog 45 (aA fo fp (mc (bh aF)) other) :=
  bu ho (bj TT mixed (rF R aF pN) (keep:=false) rfl rfl rfl rfl 0 (qI R aF)) fun (x:bN.av fo) (y:aH.av fp) k=>r9 aF (aw aF) x.1 x.2.1 k

noncomputable def C2 (R:Type) (bh:dU R) (cd:gX R):Env R:=fun i=>match i with
  | 45=>some (true,(aA fo fp (mc bh) bg))
  | 44=>some (true,(aA lb lg (r8 cd) bg))
  | _=>none
theorem OQ (R:Type) (aF:cw R) (pN:ay.Spec.Ok Tryz.prog 21 (aA ma mb (iF aF) bg)):p6 Tryz.prog (C2 R (bh aF) cd):=by
  intro i b sp h
  unfold C2 at h
  split at h
  · cases h; exact ⟨(qN R aF pN _ (aO _)),fun h=>nomatch h⟩
  · cases h; exact ⟨(zh R _ (aO _)),fun h=>nomatch h⟩
  · cases h

noncomputable def KV (R:Type):Nat→Option (Hint × cr R):=fun i=>match i with
  | _=>none

noncomputable def C3 {R:Type} (bh:dU R) (cd:gX R) (x1:Json) (x2:Json) (k0:Bool→Option R):Option R :=
  bif (x1.kind==x2.kind)then (bif (x1.num.aB==x2.num.aB&&(x1.num.exp==x2.num.exp&&true))then (bif (x1.text==x2.text)then (cd x1.names x2.names (fun y3=>bif y3 then (bh x1.items x2.items (fun y4=>k0 y4))else (k0 false)))else (k0 false))else (k0 false))else (k0 false)
noncomputable def Gj {R:Type} (aF:cw R):cw R:=fun x1 x2 k0=>C3 (bh aF) cd x1 x2 k0
theorem QV {R:Type} (bh:dU R) (cd:gX R) (x1:Json) (x2:Json) (k:V→az→Option R):iP tt (C2 R bh cd) (KV R) false Tryz.f21 (aK Tryz.f21) [.agg [.int .i64 x1.kind, .int .i64 x1.num.aB, .int .i64 x1.num.exp, .str x1.text, .sl .str x1.names .no, .sl .json x1.items .no], .agg [.int .i64 x2.kind, .int .i64 x2.num.aB, .int .i64 x2.num.exp, .str x2.text, .sl .str x2.names .no, .sl .json x2.items .no]] [] k =
    C3 bh cd x1 x2 (fun q0=>k (.bool q0) []):=by kernel_rfl
theorem Lr (R:Type) (aF:cw R):∀a∈aP (aK Tryz.f21),cR tt (C2 R (bh aF) cd) (KV R) 0 a:=by
  refine bG 0 (by kernel_rfl) fun i hi => ?_
  omega
theorem Ls (R:Type) (aF:cw R) (pN:ay.Spec.Ok Tryz.prog 21 (aA ma mb (iF aF) bg)) (other:ay.Spec R) (ho:ay.Spec.Ok Tryz.prog 21 other):ay.Spec.Ok Tryz.prog 21 (aA ma mb (iF (Gj aF)) other) :=
  bu ho (bj TT mixed (OQ R aF pN) (keep:=false) rfl rfl rfl rfl 0 (Lr R aF)) fun (x:bN.av ma) (y:aH.av mb) k=>QV (bh aF) cd (⟨x.1.1,⟨x.1.2.1,x.1.2.2.1⟩,x.1.2.2.2.1,x.1.2.2.2.2.1,x.1.2.2.2.2.2.1⟩:Json) (⟨x.2.1.1,⟨x.2.1.2.1,x.2.1.2.2.1⟩,x.2.1.2.2.2.1,x.2.1.2.2.2.2.1,x.2.1.2.2.2.2.2.1⟩:Json) k
noncomputable def kP {R:Type}:Nat→cw R
  | 0,_,_,_=>none
  | n+1,lY,lZ,k0'=>Gj (kP n) lY lZ k0'
theorem Xy {R:Type} (n:Nat):kP (R:=R) (n+1)=Gj (kP n):=by kernel_rfl
theorem NI (R:Type):∀n,ay.Spec.Ok Tryz.prog 21 (aA ma mb (iF (kP (R:=R) n)) bg) :=
  wB (run:=fun n=>iF (kP (R:=R) n)) (fun x y k=>by kernel_rfl) fun n hyp=>Ls R (kP n) hyp bg (aO _)
noncomputable def di {R:Type}:cw R:=fun x1 x2 k0=>kP (Json.depth x1+2) x1 x2 k0
theorem NJ (R:Type):iF (R:=R) di=fun x y k=>iF (kP (Json.depth (⟨x.1.1,⟨x.1.2.1,x.1.2.2.1⟩,x.1.2.2.2.1,x.1.2.2.2.2.1,x.1.2.2.2.2.2.1⟩:Json)+2)) x y k:=by kernel_rfl
theorem Gk (R:Type) (other:ay.Spec R) (ho:ay.Spec.Ok Tryz.prog 21 other):ay.Spec.Ok Tryz.prog 21 (aA ma mb (iF di) other) :=
  B3 (DI (run:=fun n=>iF (kP (R:=R) n)) (fun x y=>(Json.depth (⟨x.1.1,⟨x.1.2.1,x.1.2.2.1⟩,x.1.2.2.2.1,x.1.2.2.2.2.1,x.1.2.2.2.2.2.1⟩:Json)+2)) ho (NI R)) (NJ R)

/-! ### humpyard/humpyardlaw04.awake -/
abbrev qJ (R:Type):Type:=(Bool→Option R)→Option R
abbrev zI:List bN := []
abbrev zJ:List aH := []
noncomputable def Gl {R:Type} (fn:qJ R):bN.av zI→aH.av zJ→(V→az→Option R)→Option R:=fun x y k=>fn (fun q0=>k (.bool q0) [])
noncomputable def zK (R:Type) (cS:lr R) (cD:jZ R) (bS:hM R) (di:cw R):Env R:=fun i=>match i with
  | 20=>some (true,(aA xT xU (Dm cS) bg))
  | 17=>some (true,(aA xB xC (Df cD) bg))
  | 32=>some (true,(aA tT tU (zB bS) bg))
  | 21=>some (true,(aA ma mb (iF di) bg))
  | _=>none
theorem Lt (R:Type):p6 Tryz.prog (zK R cS cD bS di):=by
  intro i b sp h
  unfold zK at h
  split at h
  · cases h; exact ⟨(E6 R _ (aO _)),fun h=>nomatch h⟩
  · cases h; exact ⟨(E2 R _ (aO _)),fun h=>nomatch h⟩
  · cases h; exact ⟨(Ax R _ (aO _)),fun h=>nomatch h⟩
  · cases h; exact ⟨(Gk R _ (aO _)),fun h=>nomatch h⟩
  · cases h

noncomputable def Hu (R:Type):Nat→Option (Hint × cr R):=fun i=>match i with
  | _=>none

noncomputable def Hv {R:Type} (cS:lr R) (cD:jZ R) (bS:hM R) (di:cw R) (k0:Bool→Option R):Option R :=
  cS ([32,123,34,97,34,32,58,32,91,49,46,53,48,44,32,110,117,108,108,93,125,32]:aj) (fun y1 y2 y3=>cS ([123,34,97,34,58,49,44,34,97,34]:aj) (fun y4 y5 y6=>bif (y2==0)then (bif (y3==0)then (cD (⟨y1.kind,⟨y1.num.aB,y1.num.exp⟩,y1.text,y1.names,y1.items⟩:Json) (fun y7=>bif (y7==([123,34,97,34,58,91,49,46,53,44,110,117,108,108,93,125]:aj))then (bif (y5==42)then (bif (y6==7)then (bS (⟨y1.kind,⟨y1.num.aB,y1.num.exp⟩,y1.text,y1.names,y1.items⟩:Json) (fun y8=>bif y8 then (di (⟨y1.kind,⟨y1.num.aB,y1.num.exp⟩,y1.text,y1.names,y1.items⟩:Json) (⟨y1.kind,⟨y1.num.aB,y1.num.exp⟩,y1.text,y1.names,y1.items⟩:Json) (fun y9=>bif y9 then (di (⟨y1.kind,⟨y1.num.aB,y1.num.exp⟩,y1.text,y1.names,y1.items⟩:Json) (⟨0,⟨0,0⟩,([]:aj),([]:List aj),([]:List Json)⟩:Json) (fun yJ=>k0 (!yJ)))else (k0 false)))else (k0 false)))else (k0 false))else (k0 false))else (k0 false)))else (k0 false))else (k0 false)))
noncomputable def fV {R:Type}:qJ R:=fun  k0=>Hv cS cD bS di  k0
theorem NK {R:Type} (cS:lr R) (cD:jZ R) (bS:hM R) (di:cw R) (k:V→az→Option R):iP tt (zK R cS cD bS di) (Hu R) false Tryz.f30 (aK Tryz.f30) [] [] k =
    Hv cS cD bS di  (fun q0=>k (.bool q0) []):=by kernel_rfl
theorem Jy (R:Type):∀a∈aP (aK Tryz.f30),cR tt (zK R cS cD bS di) (Hu R) 0 a:=by
  refine bG 0 (by kernel_rfl) fun i hi => ?_
  omega
theorem Kt (R:Type) (other:ay.Spec R) (ho:ay.Spec.Ok Tryz.prog 30 other):ay.Spec.Ok Tryz.prog 30 (aA zI zJ (Gl fV) other) :=
  bu ho (bj TT mixed (Lt R) (keep:=false) rfl rfl rfl rfl 0 (Jy R)) fun (x:bN.av zI) (y:aH.av zJ) k=>NK cS cD bS di  k

end Go.Proofs.YtmlkkgfenfdndaaGreatDoor

set_option maxRecDepth 100000
namespace Go.Proofs.YtmlkkgfenfdndaaGreatDoor
open Go Go.ay Go.Lib

abbrev Of:=Int × List Token
def lq (x:aj):List Token→Option (List Token)
  | t::r=>if t.kind=1∧t.text=x then some r else none
  | []=>none
def C4 (ns:List aj):List Token→Except Of (aj × List Token)
  | t::r =>
    if t.kind≠2 then .error (40,t::r)else if ns.contains t.text then .error (42,t::r)else
      match lq [58] r with
      | some r' => .ok (t.text,r')
      | none => .error (40,r)
  | [] => .error (0, [])
def um (f:List Token→Except Of (Json × List Token)) (obj:Bool) (ns:List aj) (is:List Json) (ts:List Token):Except Of ((List aj × List Json) × List Token) :=
  match obj with
  | true =>
    (match C4 ns ts with
     | .error b => .error b
     | .ok (nm,ts1)=>(match f ts1 with | .error b => .error b | .ok (v,H8) => .ok ((ns ++ [nm],is ++ [v]),H8)))
  | false=>(match f ts with | .error b => .error b | .ok (v,H8) => .ok ((ns,is ++ [v]),H8))
def vy (f:List Token→Except Of (Json × List Token)) (cl:aj) (obj:Bool):Nat→List aj→List Json→List Token→Except Of ((List aj × List Json) × List Token)
  | 0,_,_,ts => .error (0,ts)
  | m+1,ns,is,ts =>
    match um f obj ns is ts with
    | .error b => .error b
    | .ok (p,H8) =>
      match lq cl H8 with
      | some r => .ok (p,r)
      | none =>
        match lq [44] H8 with
        | some r=>vy f cl obj m p.1 p.2 r
        | none => .error (40,H8)
def zi (t:aj):Bool:=t==pq||(t==lF||t==sL)
def NL:List (aj × Int) := [(pq,1),(lF,2),(sL,3)]
def Ci (t:aj):Bool:=t == [91]||t == [123]
def rG (t:Token):Bool:=t.kind==2||(t.kind==3||(t.kind==4||(t.kind==1&&Ci t.text)))
def uS:Nat→Int→List Token→Except Of (Json × List Token)
  | 0,_,ts => .error (0,ts)
  | _+1,_, [] => .error (0, [])
  | n+1,d,t::r =>
    if rG t=false then .error (40,t::r)else
    if d>16 then .error (41,t::r)else
    if t.kind=1∧Ci t.text=true then
      let obj:=t.text == [123]
      let k:Int:=if obj then 7 else 6
      let cl:aj:=if obj then [125]else [93]
      match lq cl r with
      | some r' => .ok (⟨k,⟨0,0⟩, [], [], []⟩,r')
      | none =>
        match vy (uS n (d+1)) cl obj (r.length+1) [] [] r with
        | .error b => .error b
        | .ok (p,r') => .ok (⟨k,⟨0,0⟩, [],p.1,p.2⟩,r')
    else if t.kind=4∧zi t.text=true then .ok (⟨nJ .str (.int .i64) t.text NL,⟨0,0⟩, [], [], []⟩,r)
    else if t.kind=3 then .ok (⟨4,t.num, [], [], []⟩,r)
    else .ok (⟨5,⟨0,0⟩,t.text, [], []⟩,r)

theorem BU {x:aj} {ts r:List Token} (h:lq x ts=some r):r.length<ts.length:=by
  cases ts with
  | nil=>cases h
  | cons t ts =>
    simp only[lq]at h
    split at h
    · cases h; simp
    · cases h
theorem PE {ns:List aj} {ts:List Token} {p:aj × List Token} (h:C4 ns ts = .ok p):p.2.length<ts.length:=by
  cases ts with
  | nil=>cases h
  | cons t ts =>
    simp only[C4]at h
    split at h
    · cases h
    · split at h
      · cases h
      · split at h
        · rename_i r hr
          have:=BU hr
          cases h
          simp; omega
        · cases h
theorem Ku {f:List Token→Except Of (Json × List Token)} (hf:∀ts p,f ts = .ok p→p.2.length<ts.length) {obj:Bool} {ns:List aj} {is:List Json} {ts:List Token} {p:(List aj × List Json) × List Token} (h:um f obj ns is ts = .ok p) :
    p.2.length<ts.length:=by
  cases obj with
  | true =>
    simp only[um]at h
    split at h
    · cases h
    · rename_i nm ts1 hn
      have h1:=PE hn
      split at h
      · cases h
      · rename_i v H8 hv
        have h2:=hf _ _ hv
        cases h
        simp only at h1 h2 ⊢
        omega
  | false =>
    simp only[um]at h
    split at h
    · cases h
    · rename_i v H8 hv
      have h2:=hf _ _ hv
      cases h
      exact h2
theorem PF {f:List Token→Except Of (Json × List Token)} (hf:∀ts p,f ts = .ok p→p.2.length<ts.length) {cl:aj} {obj:Bool}:∀(m:Nat) (ns:List aj) (is:List Json) (ts:List Token) (p:(List aj × List Json) × List Token),
    vy f cl obj m ns is ts = .ok p→p.2.length<ts.length
  | 0,_,_,_,_,h=>by cases h
  | m+1,ns,is,ts,p,h=>by
    simp only[vy]at h
    split at h
    · cases h
    · rename_i q H8 hq
      have h1:=Ku hf hq
      split at h
      · rename_i r hr
        have h2:=BU hr
        cases h
        simp only at h1 h2 ⊢
        omega
      · split at h
        · rename_i r hr
          have h2:=BU hr
          have h3:=PF hf m _ _ _ _ h
          simp only at h1 h2 h3 ⊢
          omega
        · cases h
theorem SJ:∀(n:Nat) (d:Int) (ts:List Token) (p:Json × List Token),uS n d ts = .ok p→p.2.length<ts.length
  | 0,_,_,_,h=>by cases h
  | _+1,_, [],_,h=>by cases h
  | n+1,d,t::r,p,h=>by
    simp only[uS]at h
    split at h
    · cases h
    split at h
    · cases h
    split at h
    · split at h
      · rename_i r' hr
        have:=BU hr
        cases h
        simp; omega
      · split at h
        · cases h
        · rename_i q r' hq
          have:=PF (fun ts p=>SJ n (d+1) ts p) _ _ _ _ _ hq
          cases h
          simp only[List.length_cons]at this ⊢
          omega
    split at h
    · cases h; simp
    split at h
    · cases h; simp
    · cases h; simp

theorem NM {f:List Token→Except Of (Json × List Token)} (hf:∀ts p,f ts = .ok p→p.2.length<ts.length) {cl:aj} {obj:Bool}:∀(m m':Nat) (ns:List aj) (is:List Json) (ts:List Token),ts.length<m→ts.length<m' →
    vy f cl obj m ns is ts=vy f cl obj m' ns is ts
  | 0,_,_,_,_,h,_=>by omega
  | _+1,0,_,_,_,_,h=>by omega
  | m+1,m'+1,ns,is,ts,h,h'=>by
    simp only[vy]
    cases hq:um f obj ns is ts with
    | error b=>rfl
    | ok q =>
      obtain ⟨p,H8⟩:=q
      have h1:=Ku hf hq
      simp only
      cases lq cl H8 with
      | some r=>rfl
      | none =>
        simp only
        cases hr:lq [44] H8 with
        | none=>rfl
        | some r =>
          have h2:=BU hr
          simp only at h1 h2 ⊢
          exact NM hf m m' _ _ _ (by omega) (by omega)

def Xz {α:Type} (P:α→Prop) (Q:Of→Prop):Except Of α→Prop
  | .ok p=>P p
  | .error b=>Q b

def AO (ts:List Token):Prop:=∃e,ts.getLast? = some e∧e.kind=5
theorem AO.ne {ts:List Token} (h:AO ts):ts ≠ []:=by
  rintro rfl
  obtain ⟨e,h,_⟩:=h
  cases h
theorem AO.tail {t:Token} {r:List Token} (h:AO (t::r)) (ht:t.kind≠5):AO r:=by
  obtain ⟨e,h1,h2⟩:=h
  cases r with
  | nil =>
    simp at h1
    subst h1
    exact (ht h2).elim
  | cons u r=>exact ⟨e,by simpa [List.getLast?_cons_cons]using h1,h2⟩

theorem D0 {x:aj} {ts r:List Token} (he:AO ts) (h:lq x ts=some r):AO r:=by
  cases ts with
  | nil=>cases h
  | cons t ts =>
    simp only[lq]at h
    split at h
    · rename_i hc
      cases h
      exact he.tail (by rw[hc.1]; decide)
    · cases h
theorem XA {ns:List aj} {ts:List Token} (he:AO ts):Xz (fun p:aj × List Token=>AO p.2) (fun b=>AO b.2∧b.1≠0) (C4 ns ts):=by
  cases ts with
  | nil=>exact (he.ne rfl).elim
  | cons t ts =>
    simp only[C4]
    by_cases hk:t.kind=2
    · rw[if_neg (by simp[hk])]
      have h1:=he.tail (by rw[hk]; decide)
      by_cases hc:ns.contains t.text=true
      · rw[if_pos hc]
        exact ⟨he,by show (_:Int)≠0; simp⟩
      · rw[if_neg hc]
        cases hr:lq [58] ts with
        | some r=>exact D0 h1 hr
        | none=>exact ⟨h1,by show (_:Int)≠0; simp⟩
    · rw[if_pos hk]
      exact ⟨he,by show (_:Int)≠0; simp⟩

theorem zM {t:Token} {r:List Token}:decide ((0:Int)<((t::r).length:Int))=true:=by rw[decide_eq_true_eq,List.length_cons]; omega
theorem LO {t:Token} {r:List Token}:decide ((1:Int)≤((t::r).length:Int))=true:=by rw[decide_eq_true_eq,List.length_cons]; omega

theorem Gm {R:Type} (x:aj) {ts:List Token} (hn:ts ≠ []) (k:Bool→List Token→Int→Option R):aq x ts 0 k=match lq x ts with|some r=>k true r 0|none=>k false ts 0:=by
  cases ts with
  | nil=>exact (hn rfl).elim
  | cons t r =>
    have e0:aq x (t::r) 0 k=cU (decide ((0:Int)<((t::r).length:Int))) (bif (t.kind != 1)then (k false (t::r) 0)else (bif (!(t.text==x))then (k false (t::r) 0)else (cU (decide ((1:Int)≤((t::r).length:Int))) (k true r 0)))):=rfl
    rw[e0,aS zM]
    simp only[lq]
    by_cases h1:t.kind=1
    · by_cases h2:t.text=x
      · rw[if_pos ⟨h1,h2⟩]
        have e1:(t.kind != 1)=false:=by simp[h1]
        have e2:(!(t.text==x))=false:=by simp[h2]
        rw[e1,e2,aS LO]
        rfl
      · rw[if_neg (fun h=>h2 h.2)]
        have e1:(t.kind != 1)=false:=by simp[h1]
        have e2:(!(t.text==x))=true:=by simp[h2]
        rw[e1,e2]
        rfl
    · rw[if_neg (fun h=>h1 h.1)]
      have e1:(t.kind != 1)=true:=by simp[h1]
      rw[e1]
      rfl

theorem UD {R:Type} (ns:List aj) (x:aj) (hl:ns.length≤1099511627776) (k:Bool→Option R):∀(F i:Nat),i≤ns.length→ns.length - i<F →
    aX F ns x (ns.length:Int) (i:Int) (k (decide ((-1:Int)≥0))) (fun y=>k (decide (y≥0)))=k ((ns.drop i).contains x):=by
  intro F
  induction F with
  | zero=>intro i _ h; omega
  | succ F ih =>
    intro i hi hF
    show iL (fun x0 x1 x2 x3=>aX F x0 x1 x2 x3 _ _) ns x (ns.length:Int) (i:Int) _ _=_
    unfold iL
    by_cases h:i<ns.length
    · have h1:decide ((i:Int)<(ns.length:Int))=true:=by simp; omega
      have h2:(decide ((0:Int)≤(i:Int))&&true)=true:=by simp
      have hw:IntKind.i64.wrap ((i:Int)+1)=((i+1:Nat):Int):=by rw[dB (by omega) (by omega)]; omega
      have hg:ns.getD (i:Int).toNat (Ty.cn .str)=ns[i]:=getD_at h _
      have hj:(decide ((i:Int)≥0))=true:=by simp
      rw[h1,cond_true,aS h2,hg,List.drop_eq_getElem_cons h,List.contains_cons]
      cases hq:x==ns[i]with
      | true =>
        rw[cond_true,Bool.true_or]
        show k (decide ((i:Int)≥0))=k true
        rw[hj]
      | false =>
        rw[cond_false,Bool.false_or,hw]
        exact ih (i+1) (by omega) (by omega)
    · have h1:decide ((i:Int)<(ns.length:Int))=false:=by simp; omega
      rw[h1,cond_false,List.drop_eq_nil_of_le (by omega)]
      rfl
theorem EM {R:Type} (ns:List aj) (x:aj) (hl:ns.length≤1099511627776) (k:Bool→Option R):bQ ns x k=k (ns.contains x):=by
  have:=UD ns x hl k (List.length ns+List.length x+Int.natAbs (ns.length:Int)+Int.natAbs 0+64) 0 (by omega) (by omega)
  rw[List.drop_zero]at this
  exact this

theorem name_ok {R:Type} (ns:List aj) (hl:ns.length≤1099511627776) {ts:List Token} (he:AO ts):Xz (fun p:aj × List Token=>∀k:aj→List Token→Int→Option R,cE ns ts 0 k=k p.1 p.2 0)
    (fun b=>∃nm,∀k:aj→List Token→Int→Option R,cE ns ts 0 k=k nm b.2 b.1) (C4 ns ts):=by
  cases ts with
  | nil=>exact (he.ne rfl).elim
  | cons t r =>
    have e0:∀k:aj→List Token→Int→Option R,cE ns (t::r) 0 k=cU (decide ((0:Int)<((t::r).length:Int))) (bif (t.kind != 2)then (k t.text (t::r) 40)else (bQ ns t.text (fun y6=>bif y6 then (k t.text (t::r) 42)else (cU (decide ((1:Int)≤((t::r).length:Int))) (aq [58] r 0 (fun y9 yJ wL=>bif (!y9)then (ak 40 yJ wL (fun Aw E0=>k t.text Aw E0))else (k t.text yJ wL))))))):=fun k=>rfl
    simp only[C4]
    by_cases hk:t.kind=2
    · have e1:(t.kind != 2)=false:=by simp[hk]
      have hr:=he.tail (by rw[hk]; decide)
      rw[if_neg (by simp[hk])]
      cases hc:ns.contains t.text with
      | true =>
        rw[if_pos rfl]
        refine ⟨t.text,fun k => ?_⟩
        rw[e0,aS zM,e1,cond_false,EM ns _ hl,hc]
        rfl
      | false =>
        rw[if_neg (by simp)]
        have hs:=fun k:Bool→List Token→Int→Option R=>Gm [58] hr.ne k
        cases hq:lq [58] r with
        | some r' =>
          rw[hq]at hs
          intro k
          rw[e0,aS zM,e1,cond_false,EM ns _ hl,hc,cond_false,aS LO]
          exact hs _
        | none =>
          rw[hq]at hs
          refine ⟨t.text,fun k => ?_⟩
          rw[e0,aS zM,e1,cond_false,EM ns _ hl,hc,cond_false,aS LO]
          exact hs _
    · have e1:(t.kind != 2)=true:=by simp[hk]
      rw[if_pos hk]
      refine ⟨t.text,fun k => ?_⟩
      rw[e0,aS zM,e1]
      rfl

def Hval {R:Type} (jB:ax R) (f:List Token→Except Of (Json × List Token)) (d:Int) (B:Nat):Prop :=
  ∀ts,AO ts→ts.length≤B→Xz (fun p:Json × List Token=>AO p.2∧∀k:Json→List Token→Int→Option R,jB d ts 0 k=k p.1 p.2 0)
    (fun b=>(AO b.2∧b.1≠0)∧∃v,∀k:Json→List Token→Int→Option R,jB d ts 0 k=k v b.2 b.1) (f ts)

theorem LP {α:Type} (l:List α) (a b:α):(l ++ [a]).set ((l.length:Int)).toNat b=l ++ [b]:=by
  rw[Int.toNat_natCast,List.set_append_right _ _ (Nat.le_refl _),Nat.sub_self]
  rfl

abbrev PartG (R:Type):=Bool→Int→Int→Int→aj→List aj→Nat→Int→List Json→List Token→Int→Option R
theorem parts_ok {R:Type} (jB:ax R) (f:List Token→Except Of (Json × List Token)) (d:Int) (hd:0≤d∧d≤16) (B:Nat) (hv:Hval jB f (d+1) B) (obj:Bool) (kd a b:Int) (tx:aj) (ns:List aj) (is:List Json) (ts:List Token)
    (he:AO ts) (hB:ts.length≤B) (Ih:ns.length≤1000000000) (KT:is.length≤1000000000) :
    Xz (fun p:(List aj × List Json) × List Token=>AO p.2∧∀G:PartG R,bf jB obj kd a b tx ns is.length d is ts 0 (fun a1 a2 a3 a4 a5 a6 a7 a8 t e i=>G a1 a2 a3 a4 a5 a6 a7 a8 i t e) G (fun a1 a2 a3 a4 a5 a6 a7 a8 t e i=>G a1 a2 a3 a4 a5 a6 a7 a8 i t e) G=G obj kd a b tx p.1.1 p.1.2.length d p.1.2 p.2 0)
      (fun q=>(AO q.2∧q.1≠0)∧∃LQ n' LR,∀G:PartG R,bf jB obj kd a b tx ns is.length d is ts 0 (fun a1 a2 a3 a4 a5 a6 a7 a8 t e i=>G a1 a2 a3 a4 a5 a6 a7 a8 i t e) G (fun a1 a2 a3 a4 a5 a6 a7 a8 t e i=>G a1 a2 a3 a4 a5 a6 a7 a8 i t e) G=G obj kd a b tx LQ n' d LR q.2 q.1)
      (um f obj ns is ts):=by
  have e0:∀k0 k1 k2 k3,bf jB obj kd a b tx ns is.length d is ts 0 k0 k1 k2 k3=eC cE jB obj kd a b tx ns is.length d is ts 0 k0 k1 k2 k3:=fun _ _ _ _=>rfl
  have c1:decide ((ns.length+1)*16≤140737488355328)=true:=by rw[decide_eq_true_eq]; omega
  have c2:decide ((is.length+1)*88≤140737488355328)=true:=by rw[decide_eq_true_eq]; omega
  have hw:IntKind.i64.wrap (d+1)=d+1:=dB (by omega) (by omega)
  have km:∀c:Int,c≠0→(c==0)=false:=fun c hc=>by simpa using hc
  cases obj with
  | true =>
    have hn:=name_ok (R:=R) ns (by omega) he
    have hnE:=XA (ns:=ns) he
    have hnL:=fun p=>PE (ns:=ns) (ts:=ts) (p:=p)
    simp only[um]
    cases hq:C4 ns ts with
    | error q =>
      rw[hq]at hn hnE
      obtain ⟨nm,hn⟩:=hn
      refine ⟨hnE,ns ++ [nm],is.length,is,fun G => ?_⟩
      rw[e0]
      unfold eC
      rw[cond_true,hn,aS c1,km _ hnE.2]
      rfl
    | ok q =>
      obtain ⟨nm,ts1⟩:=q
      rw[hq]at hn hnE hnL
      have hl1:=hnL _ rfl
      have h2:=hv ts1 hnE (by simp only at hl1; omega)
      simp only
      cases hf:f ts1 with
      | error q =>
        rw[hf]at h2
        obtain ⟨h2,v,h3⟩:=h2
        refine ⟨h2,ns ++ [nm],is.length+1,is ++ [v],fun G => ?_⟩
        rw[e0]
        unfold eC
        rw[cond_true,hn,aS c1]
        show (jB (IntKind.i64.wrap (d+1)) ts1 0 _)=_
        rw[hw,h3,aS c2,aS (by simp; omega),aS (by simp),LP,Json.eta]
      | ok q =>
        obtain ⟨v,H8⟩:=q
        rw[hf]at h2
        obtain ⟨h2,h3⟩:=h2
        refine ⟨h2,fun G => ?_⟩
        rw[e0]
        unfold eC
        rw[cond_true,hn,aS c1]
        show (jB (IntKind.i64.wrap (d+1)) ts1 0 _)=_
        rw[hw,h3,aS c2,aS (by simp; omega),aS (by simp),LP,Json.eta]
        simp only[List.length_append,List.length_cons,List.length_nil]
  | false =>
    have h2:=hv ts he hB
    simp only[um]
    cases hf:f ts with
    | error q =>
      rw[hf]at h2
      obtain ⟨h2,v,h3⟩:=h2
      refine ⟨h2,ns,is.length+1,is ++ [v],fun G => ?_⟩
      rw[e0]
      unfold eC
      show (jB (IntKind.i64.wrap (d+1)) ts 0 _)=_
      rw[hw,h3,aS c2,aS (by simp; omega),aS (by simp),LP,Json.eta]
    | ok q =>
      obtain ⟨v,H8⟩:=q
      rw[hf]at h2
      obtain ⟨h2,h3⟩:=h2
      refine ⟨h2,fun G => ?_⟩
      rw[e0]
      unfold eC
      show (jB (IntKind.i64.wrap (d+1)) ts 0 _)=_
      rw[hw,h3,aS c2,aS (by simp; omega),aS (by simp),LP,Json.eta]
      simp only[List.length_append,List.length_cons,List.length_nil]

theorem XB {f:List Token→Except Of (Json × List Token)} {obj:Bool} {ns:List aj} {is:List Json} {ts:List Token} {p:(List aj × List Json) × List Token} (h:um f obj ns is ts = .ok p) :
    p.1.1.length≤ns.length+1∧p.1.2.length=is.length+1:=by
  cases obj with
  | true =>
    simp only[um]at h
    split at h
    · cases h
    · split at h
      · cases h
      · cases h; simp
  | false =>
    simp only[um]at h
    split at h
    · cases h
    · cases h; simp

theorem loop_ok {R:Type} (jB:ax R) (f:List Token→Except Of (Json × List Token)) (hfl:∀ts p,f ts = .ok p→p.2.length<ts.length) (d:Int) (hd:0≤d∧d≤16) (B:Nat) (hBB:B≤100000000) (hv:Hval jB f (d+1) B) (obj:Bool) (kd a b:Int) (tx cl:aj) :
    ∀(F:Nat) (ns:List aj) (is:List Json) (ts:List Token),ts.length<F→AO ts→ts.length≤B→ns.length+ts.length≤1000000000→is.length+ts.length≤1000000000 →
    Xz (fun p:(List aj × List Json) × List Token=>AO p.2∧∀e0,aL jB F cl ts 0 obj kd a b tx ns is.length d is e0=e0 p.2 0 obj kd a b tx p.1.1 p.1.2.length d p.1.2)
      (fun q=>(AO q.2∧q.1≠0)∧∃LQ n' LR,∀e0,aL jB F cl ts 0 obj kd a b tx ns is.length d is e0=e0 q.2 q.1 obj kd a b tx LQ n' d LR)
      (vy f cl obj F ns is ts):=by
  intro F
  induction F with
  | zero=>intro ns is ts h; omega
  | succ F ih =>
    intro ns is ts hF he hB Ih KT
    have e1:∀e0,aL jB (F+1) cl ts 0 obj kd a b tx ns is.length d is e0=nZ ak (bf jB) aq (fun lY lZ mF tQ EB EC Li Lj Lk Ll AB Gi=>aL jB F lY lZ mF tQ EB EC Li Lj Lk Ll AB Gi e0) cl ts 0 obj kd a b tx ns is.length d is e0:=fun e0=>rfl
    let G:(List Token→Int→Bool→Int→Int→Int→aj→List aj→Nat→Int→List Json→Option R)→PartG R:=fun e0 XT Un Xc XU XV XW Pr Sk Sl XX Xd =>
      bif (Xd != 0)then (e0 XX Xd XT Un Xc XU XV XW Pr Sk Sl)else (aq cl XX Xd (fun y80 y81 y82=>bif y80 then (e0 y81 y82 XT Un Xc XU XV XW Pr Sk Sl)else (aq [44] y81 y82 (fun y86 y87 y88=>bif (!y86)then (ak 40 y87 y88 (fun y89 y90=>e0 y89 y90 XT Un Xc XU XV XW Pr Sk Sl))else (aL jB F cl y87 y88 XT Un Xc XU XV XW Pr Sk Sl e0)))))
    have e2:∀e0,aL jB (F+1) cl ts 0 obj kd a b tx ns is.length d is e0=bf jB obj kd a b tx ns is.length d is ts 0 (fun a1 a2 a3 a4 a5 a6 a7 a8 t e i=>G e0 a1 a2 a3 a4 a5 a6 a7 a8 i t e) (G e0) (fun a1 a2 a3 a4 a5 a6 a7 a8 t e i=>G e0 a1 a2 a3 a4 a5 a6 a7 a8 i t e) (G e0):=fun e0=>rfl
    have hp:=parts_ok jB f d hd B hv obj kd a b tx ns is ts he hB (by omega) (by omega)
    simp only[vy]
    cases hq:um f obj ns is ts with
    | error q =>
      rw[hq]at hp
      obtain ⟨h1,LQ,n',LR,h2⟩:=hp
      refine ⟨h1,LQ,n',LR,fun e0 => ?_⟩
      rw[e2,h2]
      show (bif (q.1 != 0)then _ else _)=_
      have:(q.1 != 0)=true:=by simpa using h1.2
      rw[this,cond_true]
    | ok q =>
      obtain ⟨⟨ns1,is1⟩,H8⟩:=q
      rw[hq]at hp
      obtain ⟨h1,h2⟩:=hp
      have hlen:=Ku hfl hq
      have hout:=XB hq
      simp only at h1 h2 hlen hout ⊢
      have s1:=fun k:Bool→List Token→Int→Option R=>Gm cl h1.ne k
      cases hs:lq cl H8 with
      | some r =>
        rw[hs]at s1
        refine ⟨D0 h1 hs,fun e0 => ?_⟩
        rw[e2,h2]
        show aq cl H8 0 _=_
        rw[s1]
        rfl
      | none =>
        rw[hs]at s1
        have s2:=fun k:Bool→List Token→Int→Option R=>Gm [44] h1.ne k
        simp only
        cases VE:lq [44] H8 with
        | none =>
          rw[VE]at s2
          refine ⟨⟨h1,by show (_:Int)≠0; simp⟩,ns1,is1.length,is1,fun e0 => ?_⟩
          rw[e2,h2]
          show aq cl H8 0 _=_
          rw[s1]
          show aq [44] H8 0 _=_
          rw[s2]
          rfl
        | some r =>
          rw[VE]at s2
          have hl3:=BU VE
          have hih:=ih ns1 is1 r (by omega) (D0 h1 VE) (by omega) (by omega) (by omega)
          have e3:∀e0,aL jB (F+1) cl ts 0 obj kd a b tx ns is.length d is e0=aL jB F cl r 0 obj kd a b tx ns1 is1.length d is1 e0:=fun e0=>by
            rw[e2,h2]
            show aq cl H8 0 _=_
            rw[s1]
            show aq [44] H8 0 _=_
            rw[s2]
            rfl
          simp only[e3]
          exact hih

theorem VH {R:Type} (jB:ax R) (f:List Token→Except Of (Json × List Token)) (hfl:∀ts p,f ts = .ok p→p.2.length<ts.length) (d:Int) (hd:0≤d∧d≤16) (B:Nat) (hBB:B≤100000000) (hv:Hval jB f (d+1) B) (obj:Bool) (kd a b:Int) (tx cl:aj)
    (r:List Token) (he:AO r) (hB:r.length≤B) (hs:lq cl r=none) :
    Xz (fun p:(List aj × List Json) × List Token=>AO p.2∧∀K0 (K:Json→List Token→Int→Option R),bI jB cl r 0 obj kd a b tx d K0 (fun E0 uT F1 GU JE GA KR LK Cp Sg QI=>K ⟨GU,⟨JE,GA⟩,KR,LK,QI⟩ E0 uT)=K ⟨kd,⟨a,b⟩,tx,p.1.1,p.1.2⟩ p.2 0)
      (fun q=>(AO q.2∧q.1≠0)∧∃v,∀K0 (K:Json→List Token→Int→Option R),bI jB cl r 0 obj kd a b tx d K0 (fun E0 uT F1 GU JE GA KR LK Cp Sg QI=>K ⟨GU,⟨JE,GA⟩,KR,LK,QI⟩ E0 uT)=K v q.2 q.1) (vy f cl obj (r.length+1) [] [] r):=by
  have e1:∀K0 K1,bI jB cl r 0 obj kd a b tx d K0 K1=aq cl r 0 (fun yJ wL Aw=>bif yJ then (K0 wL Aw obj kd a b tx d)else (aL jB (List.length cl+List.length wL+Int.natAbs Aw+Int.natAbs kd+Int.natAbs a+Int.natAbs b+List.length tx+List.length ([]:List aj)+Int.natAbs d+List.length ([]:List Json)+64) cl wL Aw obj kd a b tx ([]:List aj) 0 d ([]:List Json) K1)):=fun K0 K1=>rfl
  have s1:=fun k:Bool→List Token→Int→Option R=>Gm cl he.ne k
  rw[hs]at s1
  have hl:=loop_ok jB f hfl d hd B hBB hv obj kd a b tx cl (List.length cl+List.length r+Int.natAbs 0+Int.natAbs kd+Int.natAbs a+Int.natAbs b+List.length tx+List.length ([]:List aj)+Int.natAbs d+List.length ([]:List Json)+64) [] [] r (by omega) he hB (by simp; omega) (by simp; omega)
  have e2:∀K0 K1,bI jB cl r 0 obj kd a b tx d K0 K1=aL jB (List.length cl+List.length r+Int.natAbs 0+Int.natAbs kd+Int.natAbs a+Int.natAbs b+List.length tx+List.length ([]:List aj)+Int.natAbs d+List.length ([]:List Json)+64) cl r 0 obj kd a b tx ([]:List aj) ([]:List Json).length d ([]:List Json) K1:=fun K0 K1=>by
    rw[e1,s1]
    rfl
  rw[NM hfl _ (r.length+1) [] [] r (by omega) (by omega)]at hl
  cases hq:vy f cl obj (r.length+1) [] [] r with
  | error q =>
    rw[hq]at hl
    obtain ⟨h1,LQ,n',LR,h2⟩:=hl
    exact ⟨h1,⟨kd,⟨a,b⟩,tx,LQ,LR⟩,fun K0 K=>by rw[e2,h2]⟩
  | ok p =>
    rw[hq]at hl
    obtain ⟨h1,h2⟩:=hl
    exact ⟨h1,fun K0 K=>by rw[e2,h2]⟩
theorem PG {R:Type} (jB:ax R) (obj:Bool) (kd a b d:Int) (tx cl:aj) (r r':List Token) (hn:r ≠ []) (hs:lq cl r=some r') (K0 K1) :
    bI (R:=R) jB cl r 0 obj kd a b tx d K0 K1=K0 r' 0 obj kd a b tx d:=by
  have e1:bI jB cl r 0 obj kd a b tx d K0 K1=aq cl r 0 (fun yJ wL Aw=>bif yJ then (K0 wL Aw obj kd a b tx d)else (aL jB (List.length cl+List.length wL+Int.natAbs Aw+Int.natAbs kd+Int.natAbs a+Int.natAbs b+List.length tx+List.length ([]:List aj)+Int.natAbs d+List.length ([]:List Json)+64) cl wL Aw obj kd a b tx ([]:List aj) 0 d ([]:List Json) K1)):=rfl
  rw[e1,Gm cl hn,hs]
  rfl

theorem QW {R:Type} (jB:ax R) (d:Int) (r:List Token) (q:Json→List Token→Int→Option R):cv jB true d r 0 q =
    bI jB [125] r 0 true 7 0 0 [] d (fun y5 y6 y7 y8 y9 yJ wL Aw=>q ⟨y8,⟨y9,yJ⟩,wL, [], []⟩ y5 y6) (fun E0 uT F1 GU JE GA KR LK Cp Sg QI=>q ⟨GU,⟨JE,GA⟩,KR,LK,QI⟩ E0 uT):=rfl
theorem QX {R:Type} (jB:ax R) (d:Int) (r:List Token) (q:Json→List Token→Int→Option R):cv jB false d r 0 q =
    bI jB [93] r 0 false 6 0 0 [] d (fun y5 y6 y7 y8 y9 yJ wL Aw=>q ⟨y8,⟨y9,yJ⟩,wL, [], []⟩ y5 y6) (fun E0 uT F1 GU JE GA KR LK Cp Sg QI=>q ⟨GU,⟨JE,GA⟩,KR,LK,QI⟩ E0 uT):=rfl

section
variable {R:Type} (jB:ax R) (d:Int) (t:Token) (r:List Token) (k:Json→List Token→Int→Option R)
noncomputable def J18:Option R:=bif (t.kind==3)then k ⟨4,⟨t.num.aB,t.num.exp⟩, [], [], []⟩ r 0 else k ⟨5,⟨0,0⟩,t.text, [], []⟩ r 0
noncomputable def XC (z:Bool):Option R:=bif z then (bif (t.kind==4)then k ⟨nJ .str (.int .i64) t.text NL,⟨0,0⟩, [], [], []⟩ r 0 else J18 t r k)else J18 t r k
noncomputable def J17 (z:Bool):Option R:=bif z then (bif (t.kind==1)then cv jB (t.text == [123]) d r 0 (fun Aw E0 uT=>k ⟨Aw.kind,⟨Aw.num.aB,Aw.num.exp⟩,Aw.text,Aw.names,Aw.items⟩ E0 uT)else J18 t r k)
  else (bif (t.text==pq)then XC t r k (t.text==pq)else (bif (t.text==lF)then XC t r k (t.text==lF)else XC t r k (t.text==sL)))
noncomputable def J19:Option R:=cU (decide ((1:Int)≤((t::r).length:Int))) (bif (t.text == [91])then J17 jB d t r k (t.text == [91])else J17 jB d t r k (t.text == [123]))
noncomputable def J20 (z:Bool):Option R:=bif (!z)then k ⟨0,⟨0,0⟩, [], [], []⟩ (t::r) 40 else (bif (decide (d>16))then k ⟨0,⟨0,0⟩, [], [], []⟩ (t::r) 41 else J19 jB d t r k)
end

theorem UE {R:Type} (n:Nat) (d:Int) (t:Token) (r:List Token) (k:Json→List Token→Int→Option R):bz (n+1) d (t::r) 0 k=J20 (bz n) d t r k (rG t):=by
  have e0:bz (n+1) d (t::r) 0 k=cU (decide ((0:Int)<((t::r).length:Int))) (let j:=J20 (bz n) d t r k; bif (t.kind==2)then j true else (bif (t.kind==3)then j true else (bif (t.kind==4)then j true else (bif (t.kind==1)then (bif (t.text == [91])then j true else j (t.text == [123]))else j false)))):=rfl
  rw[e0,aS zM]
  unfold rG Ci
  simp only
  cases t.kind==2 <;> cases t.kind==3 <;> cases t.kind==4 <;> cases t.kind==1 <;> cases t.text == [91] <;> rfl

theorem UF {x:aj} (h:Ci x=true):zi x=false:=by
  unfold Ci at h
  rw[Bool.or_eq_true,beq_iff_eq,beq_iff_eq]at h
  rcases h with rfl|rfl <;> rfl

theorem SK {R:Type} (B:Nat) (hBB:B≤100000000):∀(n:Nat) (d:Int),0≤d→d≤17→17 - d<n→Hval (R:=R) (bz n) (uS n d) d B:=by
  intro n
  induction n with
  | zero=>intro d h0 h1 h2; omega
  | succ n ih =>
    intro d h0 h1 h2 ts he hB
    cases ts with
    | nil=>exact (he.ne rfl).elim
    | cons t r =>
      simp only[uS]
      have hv:=fun k=>UE (R:=R) n d t r k
      cases RY:rG t with
      | false =>
        rw[if_pos rfl]
        rw[RY]at hv
        exact ⟨⟨he,by show (_:Int)≠0; simp⟩,_,fun k=>hv k⟩
      | true =>
        rw[if_neg (by simp)]
        rw[RY]at hv
        by_cases hd:d>16
        · rw[if_pos hd]
          refine ⟨⟨he,by show (_:Int)≠0; simp⟩,⟨0,⟨0,0⟩, [], [], []⟩,fun k => ?_⟩
          rw[hv]
          unfold J20
          have e1:decide (d>16)=true:=by simpa using hd
          rw[e1]
          rfl
        · rw[if_neg hd]
          have hk5:t.kind≠5:=by
            intro h5
            simp[rG,h5]at RY
          have her:=he.tail hk5
          have hrB:r.length≤B:=by simp only[List.length_cons]at hB; omega
          have WL:∀k,bz (n+1) d (t::r) 0 k=J17 (bz n) d t r k (Ci t.text):=fun k=>by
            rw[hv]
            unfold J20
            have e1:decide (d>16)=false:=by simpa using hd
            rw[e1,Bool.not_true,cond_false,cond_false]
            unfold J19
            rw[aS LO]
            unfold Ci
            cases t.text == [91] <;> rfl
          have h18:¬(t.kind=1∧Ci t.text=true)→¬(t.kind=4∧zi t.text=true)→∀k,bz (n+1) d (t::r) 0 k=J18 t r k:=fun g1 g2 k=>by
            rw[WL]
            unfold J17
            cases ho:Ci t.text with
            | true =>
              have:(t.kind==1)=false:=by
                rw[beq_eq_false_iff_ne]
                exact fun h=>g1 ⟨h,ho⟩
              rw[cond_true,this,cond_false]
            | false =>
              rw[cond_false]
              have Lu:(bif (t.text==pq)then XC t r k (t.text==pq)else (bif (t.text==lF)then XC t r k (t.text==lF)else XC t r k (t.text==sL)))=XC t r k (zi t.text):=by
                unfold zi
                cases t.text==pq <;> cases t.text==lF <;> rfl
              rw[Lu]
              unfold XC
              cases hn:zi t.text with
              | false=>rfl
              | true =>
                have:(t.kind==4)=false:=by
                  rw[beq_eq_false_iff_ne]
                  exact fun h=>g2 ⟨h,hn⟩
                rw[cond_true,this,cond_false]
          by_cases TL:t.kind=1∧Ci t.text=true
          · rw[if_pos TL]
            have ek:(t.kind==1)=true:=by simpa using TL.1
            have hvp:∀k,bz (n+1) d (t::r) 0 k=cv (bz n) (t.text == [123]) d r 0 k:=fun k=>by
              rw[WL]
              unfold J17
              rw[TL.2,cond_true,ek,cond_true]
              simp only[Json.eta]
            have jB:=ih (d+1) (by omega) (by omega) (by omega)
            have hfl:=fun ts p=>SJ n (d+1) ts p
            cases RL:t.text == [123]with
            | true =>
              simp only[if_true]
              rw[RL]at hvp
              cases hs:lq [125] r with
              | some r' =>
                refine ⟨D0 her hs,fun k => ?_⟩
                rw[hvp]
                rw[QW]
                rw[PG _ _ _ _ _ _ _ _ _ _ her.ne hs]
              | none =>
                have hl:=VH (R:=R) _ _ hfl d ⟨h0,by omega⟩ B hBB jB true 7 0 0 [] [125] r her hrB hs
                simp only
                cases hq:vy (uS n (d+1)) [125] true (r.length+1) [] [] r with
                | error q =>
                  rw[hq]at hl
                  obtain ⟨g1,v,g2⟩:=hl
                  refine ⟨g1,v,fun k => ?_⟩
                  rw[hvp]
                  rw[QW]
                  exact g2 _ k
                | ok p =>
                  rw[hq]at hl
                  obtain ⟨g1,g2⟩:=hl
                  refine ⟨g1,fun k => ?_⟩
                  rw[hvp]
                  rw[QW]
                  exact g2 _ k
            | false =>
              simp only[Bool.false_eq_true,if_false]
              rw[RL]at hvp
              cases hs:lq [93] r with
              | some r' =>
                refine ⟨D0 her hs,fun k => ?_⟩
                rw[hvp]
                rw[QX]
                rw[PG _ _ _ _ _ _ _ _ _ _ her.ne hs]
              | none =>
                have hl:=VH (R:=R) _ _ hfl d ⟨h0,by omega⟩ B hBB jB false 6 0 0 [] [93] r her hrB hs
                simp only
                cases hq:vy (uS n (d+1)) [93] false (r.length+1) [] [] r with
                | error q =>
                  rw[hq]at hl
                  obtain ⟨g1,v,g2⟩:=hl
                  refine ⟨g1,v,fun k => ?_⟩
                  rw[hvp]
                  rw[QX]
                  exact g2 _ k
                | ok p =>
                  rw[hq]at hl
                  obtain ⟨g1,g2⟩:=hl
                  refine ⟨g1,fun k => ?_⟩
                  rw[hvp]
                  rw[QX]
                  exact g2 _ k
          · rw[if_neg TL]
            by_cases Lu:t.kind=4∧zi t.text=true
            · rw[if_pos Lu]
              refine ⟨her,fun k => ?_⟩
              rw[WL]
              have ho:Ci t.text=false:=by
                cases ho:Ci t.text with
                | false=>rfl
                | true=>rw[UF ho]at Lu; cases Lu.2
              have ek:(t.kind==4)=true:=by simpa using Lu.1
              unfold J17
              rw[ho,cond_false]
              have JD:(bif (t.text==pq)then XC t r k (t.text==pq)else (bif (t.text==lF)then XC t r k (t.text==lF)else XC t r k (t.text==sL)))=XC t r k (zi t.text):=by
                unfold zi
                cases t.text==pq <;> cases t.text==lF <;> rfl
              rw[JD,Lu.2]
              unfold XC
              rw[ek]
              rfl
            · rw[if_neg Lu]
              have h:=h18 TL Lu
              by_cases XR:t.kind=3
              · rw[if_pos XR]
                refine ⟨her,fun k => ?_⟩
                rw[h]
                unfold J18
                have ek:(t.kind==3)=true:=by simpa using XR
                rw[ek]
                rfl
              · rw[if_neg XR]
                refine ⟨her,fun k => ?_⟩
                rw[h]
                unfold J18
                have ek:(t.kind==3)=false:=by simpa using XR
                rw[ek]
                rfl


end Go.Proofs.YtmlkkgfenfdndaaGreatDoor

/-
  Functions of the program as pure Lean functions, and the ties; printed by wip/tools/emit.py.
-/
set_option maxRecDepth 100000
namespace Go.Proofs.YtmlkkgfenfdndaaGreatDoor
open Go Go.ay

end Go.Proofs.YtmlkkgfenfdndaaGreatDoor

set_option maxRecDepth 100000
namespace Go.Proofs.YtmlkkgfenfdndaaGreatDoor
open Go Go.ay Go.Lib

theorem PH:∀(n p:Nat) (s:aj) (out:List Token),(uj n p s out).1.length≤out.length+s.length+1
  | 0,_,_,_=>by simp[uj]
  | n+1,p,s,out=>by
    simp only[uj]
    split
    · simp <;> omega
    · split
      · simp
      · rename_i t r hr
        have h1:=(tokS_sfx hr).2
        have h2:=xa qM s
        have h3:=PH n (p+(s.length - r.length)) r (out ++ [putT t ((p+(s.takeWhile qM).length:Nat):Int)])
        rw[List.length_append,List.length_cons,List.length_nil]at h3
        omega

theorem PI (s:aj):(pV s).1.length≤20002:=by
  unfold pV
  split
  · simp
  · have:=PH (s.length+1) 0 s []
    simp at this
    omega

end Go.Proofs.YtmlkkgfenfdndaaGreatDoor

/-
  Functions of the program as pure Lean functions, and the ties; printed by wip/tools/emit.py.
-/
set_option maxRecDepth 100000
namespace Go.Proofs.YtmlkkgfenfdndaaGreatDoor
open Go Go.ay

end Go.Proofs.YtmlkkgfenfdndaaGreatDoor

set_option maxRecDepth 100000
namespace Go.Proofs.YtmlkkgfenfdndaaGreatDoor
open Go Go.ay Go.Lib

structure RawW (R:Type) (x:GJ) (p:aj × Token):Prop where
  word:Word p.1 p.2
  len:p.1.length≤182
  run:∀k:aj→Option R,Nq x k=k p.1
  kind:∃q:Int,p.2.kind=1+q∧0≤q∧q<4∧∀k:Int→Option R,kz x.kind 4 k=k q
  text:p.2.kind=2→∀k:aj→Bool→Option R,bU p.2.text k=k p.1 true
  other:p.2.kind≠2→p.2.text=p.1
  num:p.2.kind=3→∀k:iZ→Option R,dp x.aB x.exp k=k p.2.num

end Go.Proofs.YtmlkkgfenfdndaaGreatDoor

/-
  Functions of the program as pure Lean functions, and the ties; printed by wip/tools/emit.py.
-/
set_option maxRecDepth 100000
namespace Go.Proofs.YtmlkkgfenfdndaaGreatDoor
open Go Go.ay

end Go.Proofs.YtmlkkgfenfdndaaGreatDoor

/-
  Functions of the program as pure Lean functions, and the ties; printed by wip/tools/emit.py.
-/
set_option maxRecDepth 100000
namespace Go.Proofs.YtmlkkgfenfdndaaGreatDoor
open Go Go.ay

end Go.Proofs.YtmlkkgfenfdndaaGreatDoor

set_option maxRecDepth 100000
namespace Go.Proofs.YtmlkkgfenfdndaaGreatDoor
open Go Go.ay Go.Lib

def Q6 (t:Token):Int × aj × iZ:=(t.kind,t.text,t.num)
theorem tokW_st:∀(l:List pr) (p:Nat),(tokW p l).map Q6=l.map fun x=>Q6 x.2.2
  | [],_=>rfl
  | x::l,p=>by simp only[tokW,List.map_cons,tokW_st l]; rfl


theorem PJ:∀(n p:Nat) (s:aj) (out:List Token),s.length<n→(uj n p s out).2.1=0→AO (uj n p s out).1
  | 0,_,_,_,h,_=>by omega
  | n+1,p,s,out,h,he=>by
    simp only[uj]at he ⊢
    by_cases hd:s.dropWhile qM = []
    · rw[if_pos hd]
      exact ⟨_,List.getLast?_concat ..,rfl⟩
    · rw[if_neg hd]at he ⊢
      cases hr:tokS (s.dropWhile qM)with
      | none=>rw[hr]at he; cases he
      | some q =>
        obtain ⟨t,r⟩:=q
        rw[hr]at he
        have h3:=(tokS_sfx hr).2
        have h4:=xa qM s
        exact PJ n _ r _ (by omega) he
theorem PK (s:aj) (he:(pV s).2.1=0):AO (pV s).1:=by
  unfold pV at he ⊢
  split at he
  · cases he
  · rename_i h
    rw[if_neg h]
    exact PJ _ _ _ _ (by omega) he

def so (s:aj):Json × Int × Int :=
  if (pV s).2.1≠0 then (⟨0,⟨0,0⟩, [], [], []⟩,(pV s).2.1,(pV s).2.2)else
  match uS 40 1 (pV s).1 with
  | .error b=>(⟨0,⟨0,0⟩, [], [], []⟩,b.1,(b.2.getD 0 ⟨0, [],⟨0,0⟩,0⟩).at_)
  | .ok (v,r)=>if (r.getD 0 ⟨0, [],⟨0,0⟩,0⟩).kind≠5 then (⟨0,⟨0,0⟩, [], [], []⟩,40,(r.getD 0 ⟨0, [],⟨0,0⟩,0⟩).at_)else (v,0,0)

theorem PL {R:Type} (s:aj) (k:Json→Int→Int→Option R):cS s k=k (so s).1 (so s).2.1 (so s).2.2:=by
  have e0:cS s k=BM ak cI kv s k:=rfl
  rw[e0]
  unfold BM so
  rw[scan_ok]
  by_cases h:(pV s).2.1=0
  rotate_left
  · have e1:((pV s).2.1 != 0)=true:=by simpa using h
    rw[if_pos h,e1]
    rfl
  have e1:((pV s).2.1 != 0)=false:=by simpa using h
  rw[if_neg (by simpa using h),e1,cond_false]
  have hE:=PK s h
  have hL:=PI s
  have hv:=SK (R:=R) 20002 (by omega) 40 1 (by omega) (by omega) (by omega) (pV s).1 hE hL
  have e2:∀q,cI (R:=R) 1 (pV s).1 0 q=bz 40 1 (pV s).1 0 q:=fun q=>rfl
  rw[e2]
  cases hq:uS 40 1 (pV s).1 with
  | error b =>
    rw[hq]at hv
    obtain ⟨⟨g1,g2⟩,v,g3⟩:=hv
    rw[g3]
    obtain ⟨c,r⟩:=b
    cases r with
    | nil=>exact (g1.ne rfl).elim
    | cons t r =>
      have e3:(c != 0)=true:=by simpa using g2
      have hf:∀q:List Token→Int→Option R,ak 40 (t::r) c q=q (t::r) c:=fun q=>by
        show (bif c==0 then q (t::r) 40 else q (t::r) c)=_
        have e4:(c==0)=false:=by simpa using g2
        rw[e4]; rfl
      rw[aS zM]
      simp only[hf]
      have hz:∀z:Bool,(bif z then (bif (c != 0)then cU (decide ((0:Int)<((t::r).length:Int))) (k ⟨0,⟨0,0⟩, [], [], []⟩ c t.at_)else k v 0 0)else (bif (c != 0)then cU (decide ((0:Int)<((t::r).length:Int))) (k ⟨0,⟨0,0⟩, [], [], []⟩ c t.at_)else k v 0 0))=k ⟨0,⟨0,0⟩, [], [], []⟩ c t.at_:=fun z=>by
        rw[e3,aS zM]
        cases z <;> rfl
      have:=hz (t.kind != 5)
      obtain ⟨kd,⟨n1,n2⟩,tx,ns,is⟩:=v
      exact this
  | ok p =>
    rw[hq]at hv
    obtain ⟨g1,g2⟩:=hv
    obtain ⟨v,r⟩:=p
    rw[g2]
    cases r with
    | nil=>exact (g1.ne rfl).elim
    | cons t r =>
      rw[aS zM]
      by_cases hk:t.kind=5
      · have e3:(t.kind != 5)=false:=by simpa using hk
        have:((((v,t::r):Json × List Token).2).getD 0 (Ty.cn .token)).kind=t.kind:=rfl
        show (bif (t.kind != 5)then _ else _)=_
        rw[e3,cond_false]
        obtain ⟨kd,⟨n1,n2⟩,tx,ns,is⟩:=v
        show k ⟨kd,⟨n1,n2⟩,tx,ns,is⟩ 0 0=_
        have rN:¬(((t::r).getD 0 ⟨0, [],⟨0,0⟩,0⟩).kind≠5):=fun h=>h hk
        simp only
        rw[if_neg rN]
      · have e3:(t.kind != 5)=true:=by simpa using hk
        show (bif (t.kind != 5)then _ else _)=_
        rw[e3,cond_true]
        show cU (decide ((0:Int)<((t::r).length:Int))) (k ⟨0,⟨0,0⟩, [], [], []⟩ 40 t.at_)=_
        rw[aS zM]
        have rN:(((t::r).getD 0 ⟨0, [],⟨0,0⟩,0⟩).kind≠5):=hk
        simp only
        rw[if_pos rN]
        rfl

def UG (x:pr):Int × aj × iZ:=Q6 x.2.2
theorem EN {ts:List Token} {x:pr} {l:List pr} (h:ts.map Q6=(x::l).map UG):∃t r,ts=t::r∧Q6 t=UG x∧r.map Q6=l.map UG:=by
  cases ts with
  | nil=>cases h
  | cons t r =>
    simp only[List.map_cons,List.cons.injEq]at h
    exact ⟨t,r,rfl,h.1,h.2⟩
theorem QY {ts:List Token} {a b:List pr} (h:ts.map Q6=(a++b).map UG):∃u v,ts=u++v∧u.map Q6=a.map UG∧v.map Q6=b.map UG:=by
  rw[List.map_append]at h
  obtain ⟨u,v,e,h1,h2⟩:=List.map_eq_append_iff.1 h
  exact ⟨u,v,e,h1,h2⟩
theorem NN {ts:List Token} {x:pr} (h:ts.map Q6 = [x].map UG):∃t,ts = [t]∧Q6 t=UG x:=by
  obtain ⟨t,r,e,h1,h2⟩:=EN h
  cases r with
  | nil=>exact ⟨t,e,h1⟩
  | cons u r=>cases h2
theorem xW {t:Token} {x:pr} (h:Q6 t=UG x):t.kind=x.2.2.kind∧t.text=x.2.2.text∧t.num=x.2.2.num:=by
  unfold UG Q6 at h
  simp only[Prod.mk.injEq]at h
  exact h

theorem val_name {n:Nat} {d:Int} (hd:d≤16) {t:Token} {rest:List Token} {x:aj} (hx:x=pq∨x=lF∨x=sL) (hk:t.kind=4) (ht:t.text=x) :
    uS (n+1) d (t::rest) = .ok (⟨nJ .str (.int .i64) x NL,⟨0,0⟩, [], [], []⟩,rest):=by
  have h1:rG t=true:=by simp[rG,hk]
  have h2:zi t.text=true:=by
    rw[ht]
    rcases hx with rfl|rfl|rfl <;> rfl
  simp only[uS]
  rw[if_neg (by rw[h1]; simp),if_neg (by omega),if_neg (by rw[hk]; simp),if_pos ⟨hk,h2⟩,ht]

theorem XD {n:Nat} {d:Int} {ts:List Token} {p:Json × List Token} (h:uS n d ts = .ok p):lq [93] ts=none∧lq [125] ts=none:=by
  cases n with
  | zero=>cases h
  | succ n =>
    cases ts with
    | nil=>cases h
    | cons t r =>
      simp only[uS]at h
      by_cases hs:rG t=false
      · rw[if_pos hs]at h; cases h
      · have km:∀x:aj,x = [93]∨x = [125]→¬(t.kind=1∧t.text=x):=fun x hx ⟨h1,h2⟩=>by
          apply hs
          rcases hx with rfl|rfl <;> simp[rG,Ci,h1,h2]
        simp only[lq]
        rw[if_neg (km _ (.inl rfl)),if_neg (km _ (.inr rfl))]
        exact ⟨rfl,rfl⟩

mutual
theorem H9:∀(v:Json) (d:Int) (n:Nat) (ts rest:List Token),fU v d=true→17 - d<n→ts.map Q6=(rE v).map UG→uS n d (ts++rest) = .ok (v,rest)
  | ⟨k,nm,t,ns,is⟩,d,0,ts,rest,h,hn,hw=>by
    have:d≤16:=by
      cases gw.1 h <;> assumption
    omega
  | ⟨k,nm,t,ns,is⟩,d,n+1,ts,rest,h,hn,hw=>by
    have hL:=SL is
    have hO:=SM ns is
    cases gw.1 h with
    | name _ _ hd hk =>
      have IK:∀x:aj,(x=pq∨x=lF∨x=sL)→ts.map Q6 = [(([],x,⟨4,x,⟨0,0⟩,0⟩):pr)].map UG→uS (n+1) d (ts++rest) = .ok (⟨nJ .str (.int .i64) x NL,⟨0,0⟩, [], [], []⟩,rest):=fun x hx hw=>by
        obtain ⟨u,rfl,hu⟩:=NN hw
        obtain ⟨h1,h2,_⟩:=xW hu
        exact val_name hd hx h1 h2
      rcases hk with rfl|rfl|rfl
      · exact IK pq (.inl rfl) hw
      · exact IK lF (.inr (.inl rfl)) hw
      · exact IK sL (.inr (.inr rfl)) hw
    | num _ _ hd Lu =>
      obtain ⟨u,rfl,hu⟩:=NN (x:=([],za nm,⟨3,za nm,nm,0⟩)) hw
      obtain ⟨h1,h2,h3⟩:=xW hu
      simp only at h1 h2 h3
      have hs:rG u=true:=by simp[rG,h1]
      show uS (n+1) d (u::rest)=_
      simp only[uS]
      rw[if_neg (by rw[hs]; simp),if_neg (by omega),if_neg (by rw[h1]; simp),if_neg (by rw[h1]; simp),if_pos h1,h3]
    | text _ _ hd ht =>
      obtain ⟨u,rfl,hu⟩:=NN (x:=UA t) hw
      obtain ⟨h1,h2,h3⟩:=xW hu
      simp only[UA]at h1 h2 h3
      have hs:rG u=true:=by simp[rG,h1]
      show uS (n+1) d (u::rest)=_
      simp only[uS]
      rw[if_neg (by rw[hs]; simp),if_neg (by omega),if_neg (by rw[h1]; simp),if_neg (by rw[h1]; simp),if_neg (by rw[h1]; simp),h2]
    | arr _ _ hd hi =>
      obtain ⟨u,H8,rfl,hu,hw2⟩:=EN (x:=sg 91) (l:=pK is true ++ [sg 93]) hw
      obtain ⟨tl,tc,rfl,hl,Ig⟩:=QY hw2
      obtain ⟨c,rfl,hc⟩:=NN Ig
      obtain ⟨h1,h2,_⟩:=xW hu
      obtain ⟨c1,c2,_⟩:=xW hc
      simp only[sg]at h1 h2 c1 c2
      have C9:Ci u.text=true:=by rw[h2]; rfl
      have hs:rG u=true:=by simp[rG,h1,C9]
      have ho7:(u.text==([123]:aj))=false:=by rw[h2]; rfl
      show uS (n+1) d (u::(tl ++ [c]++rest))=_
      simp only[uS]
      rw[if_neg (by rw[hs]; simp),if_neg (by omega),if_pos ⟨h1,C9⟩,ho7]
      simp only[Bool.false_eq_true,if_false]
      cases is with
      | nil =>
        obtain rfl:tl = []:=by simpa [pK]using hl
        show (match lq [93] (c::rest)with|some r'=>_|none=>_)=_
        have:lq [93] (c::rest)=some rest:=by
          show (if c.kind=1∧c.text = [93]then some rest else none)=some rest
          rw[if_pos ⟨c1,c2⟩]
        rw[this]
      | cons x l =>
        obtain ⟨e1,e2⟩:=hL d n (tl ++ [c]++rest).length.succ [] [] tl c rest (by simp) hi (by omega) (by simp; omega) hl c1 c2
        rw[e1,e2]
        rfl
    | obj _ _ _ hd hlen hu7 hi =>
      obtain ⟨u,H8,rfl,hu,hw2⟩:=EN (x:=sg 123) (l:=nM ns is true ++ [sg 125]) hw
      obtain ⟨tl,tc,rfl,hl,Ig⟩:=QY hw2
      obtain ⟨c,rfl,hc⟩:=NN Ig
      obtain ⟨h1,h2,_⟩:=xW hu
      obtain ⟨c1,c2,_⟩:=xW hc
      simp only[sg]at h1 h2 c1 c2
      have C9:Ci u.text=true:=by rw[h2]; rfl
      have hs:rG u=true:=by simp[rG,h1,C9]
      have ho7:(u.text==([123]:aj))=true:=by rw[h2]; rfl
      show uS (n+1) d (u::(tl ++ [c]++rest))=_
      simp only[uS]
      rw[if_neg (by rw[hs]; simp),if_neg (by omega),if_pos ⟨h1,C9⟩,ho7]
      simp only[if_true]
      cases is with
      | nil =>
        obtain rfl:ns = []:=List.eq_nil_of_length_eq_zero hlen
        obtain rfl:tl = []:=by simpa [nM]using hl
        show (match lq [125] (c::rest)with|some r'=>_|none=>_)=_
        have:lq [125] (c::rest)=some rest:=by
          show (if c.kind=1∧c.text = [125]then some rest else none)=some rest
          rw[if_pos ⟨c1,c2⟩]
        rw[this]
      | cons x l =>
        obtain ⟨e1,e2⟩:=hO d n (tl ++ [c]++rest).length.succ [] [] [] tl c rest (by simp) hlen hi hu7 (fun n=>rfl) (by omega) (by simp; omega) hl c1 c2
        rw[e1,e2]
        rfl
theorem SL:∀(is:List Json) (d:Int) (n m:Nat) (Q7:List aj) (S1:List Json) (tl:List Token) (c:Token) (rest:List Token),is ≠ []→fX is (d+1)=true→17 - (d+1)<n→tl.length<m →
    tl.map Q6=(pK is true).map UG→c.kind=1→c.text = [93]→lq [93] (tl ++ [c]++rest)=none∧vy (uS n (d+1)) [93] false m Q7 S1 (tl ++ [c]++rest) = .ok ((Q7,S1++is),rest)
  | [],_,_,_,_,_,_,_,_,h,_,_,_,_,_,_=>(h rfl).elim
  | x::l,d,n,0,Q7,S1,tl,c,rest,_,hr,hn,hm,hw,c1,c2=>by omega
  | x::l,d,n,m+1,Q7,S1,tl,c,rest,_,hr,hn,hm,hw,c1,c2=>by
    obtain ⟨tv,tr,rfl,hv,ht⟩:=QY (a:=rE x) (b:=pK l false) hw
    simp only[fX,Bool.and_eq_true]at hr
    have hx:=H9 x (d+1) n tv (tr ++ [c]++rest) hr.1 hn hv
    have hL:=SL l
    rw[show tv++tr ++ [c]++rest=tv++(tr ++ [c]++rest) by simp]
    refine ⟨(XD hx).1,?_⟩
    have hp:um (uS n (d+1)) false Q7 S1 (tv++(tr ++ [c]++rest)) = .ok ((Q7,S1 ++ [x]),tr ++ [c]++rest):=by
      simp only[um,hx]
    simp only[vy,hp]
    cases l with
    | nil =>
      obtain rfl:tr = []:=by simpa [pK]using ht
      have:lq [93] ([] ++ [c]++rest)=some rest:=by
        show (if c.kind=1∧c.text = [93]then some rest else none)=some rest
        rw[if_pos ⟨c1,c2⟩]
      rw[this]
    | cons y l' =>
      obtain ⟨u,XE,rfl,hu,ht'⟩:=EN (x:=sg 44) (l:=pK (y::l') true) ht
      obtain ⟨u1,u2,_⟩:=xW hu
      simp only[sg]at u1 u2
      have s1:lq [93] (u::XE ++ [c]++rest)=none:=by
        show (if u.kind=1∧u.text = [93]then some (XE ++ [c]++rest)else none)=none
        rw[if_neg (by rw[u2]; rintro ⟨_,h⟩; cases h)]
      have s2:lq [44] (u::XE ++ [c]++rest)=some (XE ++ [c]++rest):=by
        show (if u.kind=1∧u.text = [44]then some (XE ++ [c]++rest)else none)=_
        rw[if_pos ⟨u1,u2⟩]
      rw[s1,s2]
      obtain ⟨_,e2⟩:=hL d n m Q7 (S1 ++ [x]) XE c rest (by simp) hr.2 hn (by simp at hm; omega) ht' c1 c2
      simp only
      rw[e2]
      simp
theorem SM:∀(ns:List aj) (is:List Json) (d:Int) (n m:Nat) (Q7:List aj) (S1:List Json) (seen:List aj) (tl:List Token) (c:Token) (rest:List Token),is ≠ []→ns.length=is.length→fX is (d+1)=true→vm seen ns=true→(∀n,Q7.contains n=seen.contains n) →
    17 - (d+1)<n→tl.length<m →
    tl.map Q6=(nM ns is true).map UG→c.kind=1→c.text = [125]→lq [125] (tl ++ [c]++rest)=none∧vy (uS n (d+1)) [125] true m Q7 S1 (tl ++ [c]++rest) = .ok ((Q7++ns,S1++is),rest)
  | _, [],_,_,_,_,_,_,_,_,_,h,_,_,_,_,_,_,_,_,_=>(h rfl).elim
  | [],x::l,d,n,m,Q7,S1,seen,tl,c,rest,_,hlen,hr,hu,hsn,hn,hm,hw,c1,c2=>by cases hlen
  | nm::ns,x::l,d,n,0,Q7,S1,seen,tl,c,rest,_,hlen,hr,hu,hsn,hn,hm,hw,c1,c2=>by omega
  | nm::ns,x::l,d,n,m+1,Q7,S1,seen,tl,c,rest,_,hlen,hr,hu,hsn,hn,hm,hw,c1,c2=>by
    obtain ⟨tn,tl1,rfl,hn1,hw1⟩:=EN (x:=UA nm) (l:=sg 58::(rE x++nM ns l false)) hw
    obtain ⟨tk,tl2,rfl,WC,hw2⟩:=EN hw1
    obtain ⟨tv,tr,rfl,hv,ht⟩:=QY hw2
    obtain ⟨n1,n2,_⟩:=xW hn1
    obtain ⟨k1,k2,_⟩:=xW WC
    simp only[UA]at n1 n2
    simp only[sg]at k1 k2
    simp only[fX,Bool.and_eq_true]at hr
    simp only[vm,Bool.and_eq_true,Bool.not_eq_true']at hu
    have hx:=H9 x (d+1) n tv (tr ++ [c]++rest) hr.1 hn hv
    have hO:=SM ns l
    rw[show tn::tk::(tv++tr) ++ [c]++rest=tn::tk::(tv++(tr ++ [c]++rest)) by simp]
    refine ⟨?_,?_⟩
    · show (if tn.kind=1∧tn.text = [125]then some _ else none)=none
      rw[if_neg (by rw[n1]; rintro ⟨h,_⟩; cases h)]
    have Lu:C4 Q7 (tn::tk::(tv++(tr ++ [c]++rest))) = .ok (nm,tv++(tr ++ [c]++rest)):=by
      simp only[C4]
      rw[if_neg (by rw[n1]; simp),if_neg (by rw[n2,hsn,hu.1.1]; simp)]
      have:lq [58] (tk::(tv++(tr ++ [c]++rest)))=some (tv++(tr ++ [c]++rest)):=by
        show (if tk.kind=1∧tk.text = [58]then some (tv++(tr ++ [c]++rest))else none)=_
        rw[if_pos ⟨k1,k2⟩]
      rw[this,n2]
    have hp:um (uS n (d+1)) true Q7 S1 (tn::tk::(tv++(tr ++ [c]++rest))) = .ok ((Q7 ++ [nm],S1 ++ [x]),tr ++ [c]++rest):=by
      simp only[um,Lu,hx]
    simp only[vy,hp]
    cases l with
    | nil =>
      obtain rfl:ns = []:=List.eq_nil_of_length_eq_zero (by simpa using hlen)
      obtain rfl:tr = []:=by simpa [nM]using ht
      have:lq [125] ([] ++ [c]++rest)=some rest:=by
        show (if c.kind=1∧c.text = [125]then some rest else none)=some rest
        rw[if_pos ⟨c1,c2⟩]
      rw[this]
    | cons y l' =>
      obtain ⟨u,XE,rfl,UU,ht'⟩:=EN (x:=sg 44) (l:=nM ns (y::l') true) ht
      obtain ⟨u1,u2,_⟩:=xW UU
      simp only[sg]at u1 u2
      have s1:lq [125] (u::XE ++ [c]++rest)=none:=by
        show (if u.kind=1∧u.text = [125]then some (XE ++ [c]++rest)else none)=none
        rw[if_neg (by rw[u2]; rintro ⟨_,h⟩; cases h)]
      have s2:lq [44] (u::XE ++ [c]++rest)=some (XE ++ [c]++rest):=by
        show (if u.kind=1∧u.text = [44]then some (XE ++ [c]++rest)else none)=_
        rw[if_pos ⟨u1,u2⟩]
      rw[s1,s2]
      obtain ⟨_,e2⟩:=hO d n m (Q7 ++ [nm]) (S1 ++ [x]) (nm::seen) XE c rest (by simp) (by simpa using hlen) hr.2 hu.2 (fun z=>by
        rw[List.contains_append,hsn,List.contains_cons,List.contains_cons,List.contains_nil,Bool.or_false,Bool.or_comm]) hn (by simp at hm; omega) ht' c1 c2
      simp only
      rw[e2]
      simp
end

theorem SN {v:Json} (h:fU v 1=true) (ts:List Token) (rest:List Token) (hw:ts.map Q6=(rE v).map UG):uS 40 1 (ts++rest) = .ok (v,rest):=H9 v 1 40 ts rest h (by omega) hw

theorem SO {v:Json} (h:fU v 1=true) (hl:(eT v).length≤20000):so (eT v)=(v,0,0):=by
  have hlay:=GH v []
  rw[List.append_nil]at hlay
  have sv:=Jv v 1 h [] (.inl rfl)
  have hlen:=Nx (rE v) []
  have hs:=SD (rE v) [] (by simp) sv (by rw[hlay]at hlen; simp at hlen ⊢; omega)
  rw[hlay]at hs
  have hv:=SN h (tokW 0 (rE v)) [⟨5, [],⟨0,0⟩,((Gf (rE v)+0:Nat):Int)⟩] (tokW_st _ _)
  unfold so
  rw[hs]
  simp only[ne_eq,not_true_eq_false,if_false,List.length_nil]
  rw[hv]
  rfl

def tight (l:List pr):Prop:=∀x∈l,x.1 = []
mutual
theorem tightJ:∀v:Json,tight (rE v)
  | ⟨k,n,t,ns,is⟩=>by
    have hL:=tightL is
    have hO:=tightO ns is
    intro x hx
    simp only[rE]at hx
    split at hx
    · simp at hx; rw[hx]
    split at hx
    · simp at hx; rw[hx]
    split at hx
    · simp at hx; rw[hx]
    split at hx
    · simp at hx; rw[hx]
    split at hx
    · simp[UA]at hx; rw[hx]
    split at hx
    · simp only[List.mem_cons,List.mem_append,List.not_mem_nil,or_false]at hx
      rcases hx with rfl|hx|rfl
      · rfl
      · exact hO true x hx
      · rfl
    · simp only[List.mem_cons,List.mem_append,List.not_mem_nil,or_false]at hx
      rcases hx with rfl|hx|rfl
      · rfl
      · exact hL true x hx
      · rfl
theorem tightL:∀(l:List Json) (first:Bool),tight (pK l first)
  | [],_=>by intro x hx; simp[pK]at hx
  | y::l,first=>by
    have h1:=tightJ y
    have h2:=tightL l false
    intro x hx
    simp only[pK,List.mem_append]at hx
    rcases hx with hx|hx|hx
    · cases first
      · simp at hx; rw[hx]; rfl
      · simp at hx
    · exact h1 x hx
    · exact h2 x hx
theorem tightO:∀(ns:List aj) (l:List Json) (first:Bool),tight (nM ns l first)
  | _, [],_=>by intro x hx; simp[nM]at hx
  | ns,y::l,first=>by
    have h1:=tightJ y
    have h2:=tightO ns.tail l false
    intro x hx
    simp only[nM,List.mem_append,List.mem_cons]at hx
    rcases hx with hx|rfl|rfl|hx|hx
    · cases first
      · simp at hx; rw[hx]; rfl
      · simp at hx
    · rfl
    · rfl
    · exact h1 x hx
    · exact h2 x hx
end

theorem SP (v:Json) (h:fU v 1=true):eT v ≠ []:=by
  intro e
  have h1:=GH v []
  rw[List.append_nil,e]at h1
  have sv:=Jv v 1 h [] (.inl rfl)
  have hv:=SN h (tokW 0 (rE v)) [] (tokW_st _ _)
  cases hw:rE v with
  | nil=>rw[hw]at hv; cases hv
  | cons x l =>
    rw[hw]at h1 sv
    obtain ⟨_,⟨c,u,hc,_⟩,_⟩:=sv
    simp[rD,hc]at h1

theorem wq {R:Type} (t s:aj) (hv:gO t=true) (ht:t.length≤10000000000) (hl:(s++Lq t).length≤100000000000) (k:List Int→Option R):aG t (zs s) k=k (zs (s++Lq t)):=by
  obtain ⟨rs,hr,hc,rfl,_,hq⟩|⟨h,_⟩:=Pu (R:=R) t ht
  · have e:aG (cV rs) (zs s) k=bU (cV rs) (fun y3 y4=>af y3 (zs s) (fun y5 y6=>k y6)):=rfl
    rw[LN hr]at hl ⊢
    rw[List.length_append]at hl
    rw[e,hq]
    exact ws (qt rs) s (by omega) (by unfold Jh; omega) _
  · rw[hv]at h; cases h

def Am (v:Json) (i:Nat):aj:=if v.kind=7 then lG (v.names.drop i) (v.items.drop i) (i==0)else mf (v.items.drop i) (i==0)

theorem NO {R:Type} (f:bJ R) (z:aj) (v:Json) (hl:v.items.length≤1099511627776) (h7:v.kind=7→v.names.length=v.items.length∧∀t∈v.names,gO t=true∧t.length≤10000000000)
    (hf:∀x∈v.items,∀(s:aj) (k:List Int→Option R),(s++eT x).length≤100000000000→f x (zs s) k=k (zs (s++eT x))) (e0:aj→List Int→Option R):∀(F i:Nat) (s:aj),i≤v.items.length→v.items.length - i<F→(s++Am v i).length≤100000000000 →
    aU f F z v.items (v.items.length:Int) (i:Int) (zs s) v e0=e0 z (zs (s++Am v i)):=by
  intro F
  induction F with
  | zero=>intro i s _ h; omega
  | succ F ih =>
    intro i s hi hF hb
    have eL:aU f (F+1) z v.items (v.items.length:Int) (i:Int) (zs s) v e0=jl ad f aG (fun lY lZ mF tQ EB EC=>aU f F lY lZ mF tQ EB EC e0) z v.items (v.items.length:Int) (i:Int) (zs s) v e0:=rfl
    rw[eL]
    unfold jl
    simp only[Json.eta]
    by_cases h:i<v.items.length
    rotate_left
    · have h1:decide ((i:Int)<(v.items.length:Int))=false:=by simp; omega
      rw[h1,cond_false]
      have hd:v.items.drop i = []:=List.drop_eq_nil_of_le (by omega)
      have:Am v i = []:=by
        unfold Am
        rw[hd]
        split
        · cases v.names.drop i <;> rfl
        · rfl
      rw[this,List.append_nil]
    have h1:decide ((i:Int)<(v.items.length:Int))=true:=by simp; omega
    have h2:(decide ((0:Int)≤(i:Int))&&true)=true:=by simp
    have hw:IntKind.i64.wrap ((i:Int)+1)=((i+1:Nat):Int):=by rw[dB (by omega) (by omega)]; omega
    have hg:v.items.getD (i:Int).toNat (Ty.cn .json)=v.items[i]:=getD_at h _
    have hr:Am v i=(if i=0 then []else [44])++((if v.kind=7 then Lq (v.names.getD i []) ++ [58]else [])++(eT v.items[i]++Am v (i+1))):=by
      unfold Am
      rw[List.drop_eq_getElem_cons h]
      by_cases VI:v.kind=7
      · rw[if_pos VI,if_pos VI,if_pos VI]
        have hn:=(h7 VI).1
        have hni:i<v.names.length:=by omega
        rw[List.drop_eq_getElem_cons hni]
        simp only[lG,List.headD_cons,List.tail_cons]
        have:v.names.getD i []=v.names[i]:=getD_at hni _
        rw[this]
        by_cases h0:i=0
        · subst h0; simp
        · have e1:(i==0)=false:=by simpa using h0
          have e2:(i+1==0)=false:=rfl
          rw[e1,e2]
          simp[h0]
      · rw[if_neg VI,if_neg VI,if_neg VI]
        simp only[mf]
        by_cases h0:i=0
        · subst h0; simp
        · have e1:(i==0)=false:=by simpa using h0
          have e2:(i+1==0)=false:=rfl
          rw[e1,e2]
          simp[h0]
    rw[hr]at hb ⊢
    rw[h1,cond_true,aS h2,hg,hw]
    -- from the name on
    have key:∀s':aj,(s'++((if v.kind=7 then Lq (v.names.getD i []) ++ [58]else [])++(eT v.items[i]++Am v (i+1)))).length≤100000000000 →
        (bif (v.kind==7)then (cU (decide ((0:Int)≤(i:Int))&&decide ((i:Int)<(v.names.length:Int))) (aG (v.names.getD (i:Int).toNat (Ty.cn .str)) (zs s') (fun Jb=>ad 58 Jb (fun Jc=>f v.items[i] Jc (fun JF=>aU f F z v.items (v.items.length:Int) ((i+1:Nat):Int) JF v e0)))))else (f v.items[i] (zs s') (fun OH=>aU f F z v.items (v.items.length:Int) ((i+1:Nat):Int) OH v e0))) =
        e0 z (zs (s'++((if v.kind=7 then Lq (v.names.getD i []) ++ [58]else [])++(eT v.items[i]++Am v (i+1))))):=by
      intro s' pQ
      by_cases VI:v.kind=7
      · rw[if_pos VI]at pQ ⊢
        have hk:(v.kind==7)=true:=by simpa using VI
        have hn:=(h7 VI).1
        have hni:i<v.names.length:=by omega
        have hgn:v.names.getD (i:Int).toNat (Ty.cn .str)=v.names.getD i []:=rfl
        have hgi:v.names.getD i []=v.names[i]:=getD_at hni _
        obtain ⟨VU,WL⟩:=(h7 VI).2 v.names[i] (List.getElem_mem hni)
        rw[hk,cond_true,aS (by simp; omega),hgn]
        rw[hgi]at pQ ⊢
        have e58:((58:UInt8).toNat:Int)=58:=rfl
        simp only[List.length_append,List.length_cons,List.length_nil]at pQ
        rw[wq _ _ VU WL (by rw[List.length_append]; omega),←e58,wb _ _ (by unfold Jh; rw[List.length_append]; omega),hf _ (List.getElem_mem h) _ _ (by simp only[List.length_append,List.length_cons,List.length_nil]; omega),
          ih (i+1) _ (by omega) (by omega) (by simp only[List.length_append,List.length_cons,List.length_nil]; omega)]
        simp only[List.append_assoc]
      · rw[if_neg VI]at pQ ⊢
        have hk:(v.kind==7)=false:=by simpa using VI
        rw[List.nil_append]at pQ ⊢
        simp only[List.length_append]at pQ
        rw[hk,cond_false,hf _ (List.getElem_mem h) _ _ (by rw[List.length_append]; omega),ih (i+1) _ (by omega) (by omega) (by simp only[List.length_append]; omega)]
        simp only[List.append_assoc]
    by_cases h0:i=0
    · subst h0
      rw[if_pos rfl,List.nil_append]at hb ⊢
      exact key s hb
    · rw[if_neg h0]at hb ⊢
      have e3:decide ((i:Int)>0)=true:=by simp; omega
      have e44:((44:UInt8).toNat:Int)=44:=rfl
      have Oa:=hb
      simp only[List.length_append,List.length_cons,List.length_nil]at Oa
      rw[e3,cond_true,←e44,wb _ _ (by unfold Jh; omega)]
      have:=key (s ++ [44]) (by simp only[List.length_append,List.length_cons,List.length_nil]; omega)
      rw[List.append_assoc]at this
      exact this

theorem EO:∀(ns:List aj) (seen:List aj),vm seen ns=true→∀t∈ns,gO t=true
  | [],_,_,t,h=>by cases h
  | n::ns,seen,h,t,ht=>by
    simp only[vm,Bool.and_eq_true]at h
    rcases List.mem_cons.1 ht with rfl|ht
    · exact h.1.2
    · exact EO ns _ h.2 t ht

theorem write_N {R:Type}:∀(n:Nat) (v:Json) (d:Int),fU v d=true→H7 v=true→v.depth<n→∀(s:aj) (k:List Int→Option R),(s++eT v).length≤100000000000→dE n v (zs s) k=k (zs (s++eT v)):=by
  intro n
  induction n with
  | zero=>intro v d _ _ h; omega
  | succ n ih =>
    intro v d hr hl hn s k hb
    obtain ⟨Ih,KT,Wv,htx,Oq⟩:=vn.1 hl
    have e0:dE (n+1) v (zs s) k=xw bc ad af aG (aU (dE n)) v (zs s) k:=rfl
    rw[e0]
    have D1:∀(z:aj) (e:aj→List Int→Option R) (F:Nat) (s':aj),(v.kind=7→v.names.length=v.items.length∧∀t∈v.names,gO t=true∧t.length≤10000000000)→fX v.items (d+1)=true→v.items.length<F→(s'++Am v 0).length≤100000000000 →
        aU (dE n) F z v.items (v.items.length:Int) 0 (zs s') v e=e z (zs (s'++Am v 0)):=fun z e F s' h7 hi hF pQ =>
      NO (dE n) z v KT h7 (fun x hx s k hb=>ih x (d+1) (H6 hi hx) (Gg Wv hx) (by have:=Gh hx; omega) s k hb) e F 0 s' (by omega) (by omega) pQ
    cases gw.1 hr with
    | name kd _ hd hk =>
      rcases hk with rfl|rfl|rfl
      · show af pq (zs s) (fun y3 y4=>k y4)=k (zs (s++pq))
        exact ws pq s (by decide) (by unfold Jh; rw[List.length_append]at hb; omega) _
      · show af lF (zs s) (fun y3 y4=>k y4)=k (zs (s++lF))
        exact ws lF s (by decide) (by unfold Jh; rw[List.length_append]at hb; omega) _
      · show af sL (zs s) (fun y3 y4=>k y4)=k (zs (s++sL))
        exact ws sL s (by decide) (by unfold Jh; rw[List.length_append]at hb; omega) _
    | num nm _ hd Lu =>
      have Oa:(s++za nm).length≤100000000000:=hb
      rw[List.length_append]at Oa
      show bc ⟨nm.aB,nm.exp⟩ (fun y9=>af y9 (zs s) (fun yJ wL=>k wL))=k (zs (s++za nm))
      rw[PB]
      exact ws (za nm) s (by omega) (by unfold Jh; omega) _
    | text t _ hd ht=>exact wq t s ht htx hb k
    | arr is _ hd hi =>
      have Oa:(s++(91::(mf is true ++ [93]))).length≤100000000000:=hb
      simp only[List.length_append,List.length_cons,List.length_nil]at Oa
      have e91:((91:UInt8).toNat:Int)=91:=rfl
      have e93:((93:UInt8).toNat:Int)=93:=rfl
      show ad ((91:UInt8).toNat:Int) (zs s) (fun uT=>aU (dE n) _ [91,93] is (is.length:Int) 0 uT ⟨6,⟨0,0⟩, [], [],is⟩ (fun Ob QJ=>cU (decide ((1:Int)<(Ob.length:Int))) (ad ((Ob.getD 1 0).toNat:Int) QJ (fun Oc=>k Oc))))=k (zs (s++(91::(mf is true ++ [93]))))
      rw[wb _ _ (by unfold Jh; omega)]
      simp only at D1
      have hz:Am ⟨6,⟨0,0⟩, [], [],is⟩ 0=mf is true:=rfl
      rw[hz]at D1
      rw[D1 _ _ _ _ (fun h=>by cases h) hi]
      rotate_left
      · simp only[List.length_cons,List.length_nil]; omega
      · simp only[List.length_append,List.length_cons,List.length_nil]; omega
      show ad ((93:UInt8).toNat:Int) (zs ((s ++ [91])++mf is true)) (fun Oc=>k Oc)=_
      rw[wb _ _ (by unfold Jh; simp only[List.length_append,List.length_cons,List.length_nil]; omega)]
      simp only[List.append_assoc,List.cons_append,List.nil_append]
    | obj ns is _ hd hlen hu hi =>
      have Oa:(s++(123::(lG ns is true ++ [125]))).length≤100000000000:=hb
      simp only[List.length_append,List.length_cons,List.length_nil]at Oa
      show ad ((123:UInt8).toNat:Int) (zs s) (fun uT=>aU (dE n) _ [123,125] is (is.length:Int) 0 uT ⟨7,⟨0,0⟩, [],ns,is⟩ (fun Ob QJ=>cU (decide ((1:Int)<(Ob.length:Int))) (ad ((Ob.getD 1 0).toNat:Int) QJ (fun Oc=>k Oc))))=k (zs (s++(123::(lG ns is true ++ [125]))))
      rw[wb _ _ (by unfold Jh; omega)]
      simp only at D1
      have hz:Am ⟨7,⟨0,0⟩, [],ns,is⟩ 0=lG ns is true:=rfl
      rw[hz]at D1
      rw[D1 _ _ _ _ (fun _=>⟨hlen,fun t ht=>⟨EO ns [] hu t ht,Oq t ht⟩⟩) hi]
      rotate_left
      · simp only[List.length_cons,List.length_nil]; omega
      · simp only[List.length_append,List.length_cons,List.length_nil]; omega
      show ad ((125:UInt8).toNat:Int) (zs ((s ++ [123])++lG ns is true)) (fun Oc=>k Oc)=_
      rw[wb _ _ (by unfold Jh; simp only[List.length_append,List.length_cons,List.length_nil]; omega)]
      simp only[List.append_assoc,List.cons_append,List.nil_append]
theorem NP {R:Type}:∀(F:Nat) (a:aj) (b:List Json) (c d:Int) (e:List Int) (f:Json) (g:aj→List Int→Option R),bl F a b c d e f g=aU bF F a b c d e f g:=by
  intro F
  induction F with
  | zero=>intros; rfl
  | succ F ih =>
    intro a b c d e f g
    have h1:bl (F+1) a b c d e f g=jl ad bF aG (fun lY lZ mF tQ EB EC=>bl F lY lZ mF tQ EB EC g) a b c d e f g:=rfl
    have h2:aU bF (F+1) a b c d e f g=jl ad bF aG (fun lY lZ mF tQ EB EC=>aU bF F lY lZ mF tQ EB EC g) a b c d e f g:=rfl
    rw[h1,h2]
    simp only[ih]

theorem NQ {R:Type} (v:Json) (hr:fU v 1=true) (hl:H7 v=true) (hb:(eT v).length≤100000000000) (k:aj→Option R):cD v k=k (eT v):=by
  have e0:cD v k=Bk bS ff v k:=rfl
  rw[e0]
  unfold Bk
  simp only[Json.eta]
  rw[NC v hl,hr,Bool.not_true,cond_false]
  have e1:ff v (fun y3=>k (td y3))=xA bc ah ad ag dh bl v (fun y3=>k (td y3)):=rfl
  rw[e1]
  obtain ⟨Ih,KT,Wv,htx,Oq⟩:=vn.1 hl
  have D1:∀(z:aj) (e:aj→List Int→Option R) (F:Nat) (s':aj),(v.kind=7→v.names.length=v.items.length∧∀t∈v.names,gO t=true∧t.length≤10000000000)→fX v.items (1+1)=true→v.items.length<F→(s'++Am v 0).length≤100000000000 →
      aU bF F z v.items (v.items.length:Int) 0 (zs s') v e=e z (zs (s'++Am v 0)):=fun z e F s' h7 hi hF pQ =>
    NO bF z v KT h7 (fun x hx s k hb=>write_N (x.depth+2) x (1+1) (H6 hi hx) (Gg Wv hx) (by omega) s k hb) e F 0 s' (by omega) (by omega) pQ
  cases gw.1 hr with
  | name kd _ hd hk =>
    rcases hk with rfl|rfl|rfl
    · show ag pq (fun y3 y4=>k (td y4))=k pq
      rw[wsn pq (by decide),tW]
    · show ag lF (fun y3 y4=>k (td y4))=k lF
      rw[wsn lF (by decide),tW]
    · show ag sL (fun y3 y4=>k (td y4))=k sL
      rw[wsn sL (by decide),tW]
  | num nm _ hd Lu =>
    have Oa:(za nm).length≤100000000000:=hb
    show bc ⟨nm.aB,nm.exp⟩ (fun y9=>ag y9 (fun yJ wL=>k (td wL)))=k (za nm)
    rw[PB]
    show ag (za nm) (fun yJ wL=>k (td wL))=k (za nm)
    rw[wsn _ Oa,tW]
  | text t _ hd ht =>
    have Oa:(Lq t).length≤100000000000:=hb
    show bU t (fun y2 y3=>ag y2 (fun y4 y5=>k (td y5)))=k (Lq t)
    obtain ⟨rs,Yk,hc,rfl,_,hq⟩|⟨h,_⟩:=Pu (R:=R) t htx
    · rw[hq,LN Yk]
      rw[LN Yk]at Oa
      show ag (qt rs) (fun y4 y5=>k (td y5))=k (qt rs)
      rw[wsn _ Oa,tW]
    · rw[ht]at h; cases h
  | arr is _ hd hi =>
      have Oa:(91::(mf is true ++ [93]):aj).length≤100000000000:=hb
      simp only[List.length_append,List.length_cons,List.length_nil]at Oa
      show bl _ [91,93] is (is.length:Int) 0 (zs ([] ++ [91])) ⟨6,⟨0,0⟩, [], [],is⟩ (fun OH Ob=>cU (decide ((1:Int)<(OH.length:Int))) (ad ((OH.getD 1 0).toNat:Int) Ob (fun QJ=>k (td QJ))))=k (91::(mf is true ++ [93]))
      simp only at D1
      have hz:Am ⟨6,⟨0,0⟩, [], [],is⟩ 0=mf is true:=rfl
      rw[hz]at D1
      rw[NP,D1 _ _ _ _ (fun h=>by cases h) hi]
      rotate_left
      · simp only[List.length_cons,List.length_nil]; omega
      · simp only[List.length_append,List.length_cons,List.length_nil]; omega
      show ad ((93:UInt8).toNat:Int) (zs (([] ++ [91])++mf is true)) (fun Oc=>k (td Oc))=_
      rw[wb _ _ (by unfold Jh; simp only[List.length_append,List.length_cons,List.length_nil]; omega),tW]
      simp only[List.append_assoc,List.cons_append,List.nil_append]
  | obj ns is _ hd hlen hu hi =>
      have Oa:(123::(lG ns is true ++ [125]):aj).length≤100000000000:=hb
      simp only[List.length_append,List.length_cons,List.length_nil]at Oa
      show bl _ [123,125] is (is.length:Int) 0 (zs ([] ++ [123])) ⟨7,⟨0,0⟩, [],ns,is⟩ (fun OH Ob=>cU (decide ((1:Int)<(OH.length:Int))) (ad ((OH.getD 1 0).toNat:Int) Ob (fun QJ=>k (td QJ))))=k (123::(lG ns is true ++ [125]))
      simp only at D1
      have hz:Am ⟨7,⟨0,0⟩, [],ns,is⟩ 0=lG ns is true:=rfl
      rw[hz]at D1
      rw[NP,D1 _ _ _ _ (fun _=>⟨hlen,fun t ht=>⟨EO ns [] hu t ht,Oq t ht⟩⟩) hi]
      rotate_left
      · simp only[List.length_cons,List.length_nil]; omega
      · simp only[List.length_append,List.length_cons,List.length_nil]; omega
      show ad ((125:UInt8).toNat:Int) (zs (([] ++ [123])++lG ns is true)) (fun Oc=>k (td Oc))=_
      rw[wb _ _ (by unfold Jh; simp only[List.length_append,List.length_cons,List.length_nil]; omega),tW]
      simp only[List.append_assoc,List.cons_append,List.nil_append]

end Go.Proofs.YtmlkkgfenfdndaaGreatDoor

namespace Go.ay
open Go.RowKit Go.Proofs.YtmlkkgfenfdndaaGreatDoor Go.ChangeShapes Go.WideShapes

mutual
inductive Wt:Nat→V→Prop where
  | int {n:Nat} {k:IntKind} {z:Int} (h1:1≤n) (h:k.has z):Wt n (.int k z)
  | bool {n:Nat} (h1:1≤n) (b:Bool):Wt n (.bool b)
  | str {n:Nat} {s:aj} (h:s.length+1≤n):Wt n (.str s)
  | sl {n m:Nat} {T:Ty} {l:List T.den} (h:m+1≤n) (he:SQ m (l.map T.cells)):Wt n (.sl T l .no)
inductive NR:Nat→List V→Prop where
  | nil:NR 0 []
  | cons {a b:Nat} {v:V} {vs:List V} (h:Wt a v) (t:NR b vs):NR (a+b) (v::vs)
inductive SQ:Nat→List (List V)→Prop where
  | nil:SQ 0 []
  | cons {a b:Nat} {v:List V} {vs:List (List V)} (h:NR a v) (t:SQ b vs):SQ (a+b) (v::vs)
end

theorem NR.append:∀ {x y:List V} {a b:Nat},NR a x→NR b y→NR (a+b) (x++y)
  | [],_,_,_, .nil,h=>by rw[Nat.zero_add]; exact h
  | v::x,y,_,b, .cons (a:=p) (b:=q) h t,h'=>by
    rw[Nat.add_assoc]
    exact .cons h (NR.append t h')
theorem Wt.one {p:eW} {x:p.den} {n:Nat} (h:Wt n (p.enc x)):NR n [p.enc x] := .cons (b:=0) h .nil

section
variable {H:Type} {enc:TypeId × Value→H} {P:Program} {tt:dO} {w:World} {spare:Nat→Bool} {held:Bool}

def qK (w:World) (N:Nat) (ls:List eW) (cs:List Value):Prop:=∃vs n,CV ls vs∧cK w [] K4 vs cs∧NR n vs∧n≤N
theorem qK.append {N M:Nat} {a b:List eW} {x y:List Value} (h:qK w N a x) (k:qK w M b y):qK w (N+M) (a++b) (x++y):=by
  obtain ⟨u,n,h1,h2,h3,h4⟩:=h
  obtain ⟨v,m,k1,k2,k3,k4⟩:=k
  exact ⟨u++v,n+m,h1.append k1,h2.append k2,h3.append k3,by omega⟩
theorem qK.nil {N:Nat}:qK w N [] []:=⟨[],0, .nil, .nil, .nil,Nat.zero_le _⟩
theorem qK.one {N:Nat} {p:eW} {x:p.den} {d:Value} (h:dK w [] K4 (p.enc x) d) (s:Wt N (p.enc x)):qK w N [p] [d] :=
  ⟨[p.enc x],N, .one p x, .cons h .nil,Wt.one s,Nat.le_refl _⟩
theorem qK.le {N M:Nat} {ls:List eW} {cs:List Value} (h:qK w N ls cs) (hm:N≤M):qK w M ls cs:=by
  obtain ⟨u,n,h1,h2,h3,h4⟩:=h
  exact ⟨u,n,h1,h2,h3,by omega⟩
theorem VJ {T:Ty}:∀(l:List T.den) (es:List (DataW H)),l.length=es.length→(∀(i:Nat) (y:T.den) (e:DataW H),l[i]? = some y→es[i]? = some e→∃n,NR n (T.cells y)∧n≤Rows.uptoBulk e)→∃m,SQ m (l.map T.cells)∧m≤Rows.uptoBulkAll es
  | [],es,_,_=>⟨0, .nil,Nat.zero_le _⟩
  | y::l, [],h,_=>by cases h
  | y::l,e::es,h,hh=>by
    obtain ⟨n,h1,h2⟩:=hh 0 y e rfl rfl
    obtain ⟨m,h3,h4⟩:=VJ l es (by simpa using h) fun i y e hy he=>hh (i+1) y e hy he
    exact ⟨n+m, .cons h1 h3,by simp only[Rows.uptoBulkAll]; omega⟩

theorem Jz {n m:Nat} (ih:∀(t:TypeId) (cs:List Value) (x:DataW H × List MemPlace) (ls:List eW),DataW.trod enc P w 0 spare held n t cs=some x→nP P tt m t=some ls→Rows.uptoBulk x.1≤mx→qK w (Rows.uptoBulk x.1) ls cs) (cs:List Value) :
    ∀(fs:List Field) (j:Nat) (xs:List (DataW H × List MemPlace)) (ls:List eW),(fs.mapM fun f=>DataW.trod enc P w 0 spare held n f.type ((cs.drop f.offset).take (P.cellsOf f.type)))=some xs →
      FO P (nP P tt m) fs j cs.length=some ls→Rows.uptoBulkAll (xs.map (·.1))≤mx→qK w (Rows.uptoBulkAll (xs.map (·.1))) ls (cs.drop j)
  | [],j,xs,ls,_,hl,_=>by
    unfold FO at hl
    split at hl
    · rename_i hj
      cases hl
      rw[List.drop_eq_nil_of_le (by omega)]
      exact .nil
    · cases hl
  | f::fs,j,xs,ls,hx,hl,hb=>by
    simp only[List.mapM_cons,Option.pure_def,Option.bind_eq_bind,Option.bind_eq_some_iff]at hx
    obtain ⟨y,hy,ys,hys,e⟩:=hx
    cases e
    simp only[List.map_cons,Rows.uptoBulkAll]at hb
    unfold FO at hl
    split at hl
    · rename_i ho
      split at hl
      · rename_i a ha
        split at hl
        · rename_i qL
          split at hl
          · rename_i b pQ
            cases hl
            rw[ho]at hy
            have r1:=ih _ _ _ _ hy ha (by omega)
            have r2:=Jz ih cs fs (j+a.length) ys b hys pQ (by omega)
            have e:cs.drop j=(cs.drop j).take (P.cellsOf f.type)++cs.drop (j+a.length):=by
              rw[←qL,←List.drop_drop]
              exact (List.take_append_drop a.length (cs.drop j)).symm
            rw[e]
            exact r1.append r2
          · cases hl
        · cases hl
      · cases hl
    · cases hl

theorem PM {n m:Nat} {e:TypeId} (ih:∀(t:TypeId) (cs:List Value) (x:DataW H × List MemPlace) (ls:List eW),DataW.trod enc P w 0 spare held n t cs=some x→nP P tt m t=some ls→Rows.uptoBulk x.1≤mx→qK w (Rows.uptoBulk x.1) ls cs) (cs:List Value) {a:List eW} (ha:nP P tt m e=some a) :
    ∀(k i:Nat) (ls:List eW) (es:List (DataW H)),es.length=k→(∀q y,es[q]? = some y→∃x,DataW.trod enc P w 0 spare held n e ((cs.drop ((i+q)*P.cellsOf e)).take (P.cellsOf e))=some x∧x.1=y)→Rows.uptoBulkAll es≤mx →
      yF (some a) (P.cellsOf e) k (i*P.cellsOf e) cs.length=some ls→qK w (Rows.uptoBulkAll es) ls (cs.drop (i*P.cellsOf e))
  | 0,i,ls,es,_,_,_,hl=>by
    unfold yF at hl
    split at hl
    · rename_i hj
      cases hl
      rw[List.drop_eq_nil_of_le (by omega)]
      exact .nil
    · cases hl
  | k+1,i,ls, [],h0,hx,hbm,hl=>by cases h0
  | k+1,i,ls,y0::es,h0,hx,hbm,hl=>by
    unfold yF at hl
    simp only at hl
    split at hl
    · rename_i qL
      split at hl
      · rename_i b pQ
        cases hl
        obtain ⟨x,h1,rfl⟩:=hx 0 y0 rfl
        simp only[Rows.uptoBulkAll]at hbm ⊢
        have r1:=ih _ _ _ _ h1 ha (by omega)
        rw[qL]at pQ
        have e1:i*P.cellsOf e+P.cellsOf e=(i+1)*P.cellsOf e:=by rw[Nat.add_mul]; omega
        rw[e1]at pQ
        have r2:=PM ih cs ha k (i+1) b es (by simpa using h0) (fun q y hq=>by
          have:=hx (q+1) y hq
          rw[show i+(q+1)=i+1+q by omega]at this
          exact this) (by omega) pQ
        have e:cs.drop (i*P.cellsOf e)=(cs.drop (i*P.cellsOf e)).take (P.cellsOf e)++cs.drop ((i+1)*P.cellsOf e):=by
          rw[←e1,←List.drop_drop]
          exact (List.take_append_drop _ _).symm
        rw[e]
        exact r1.append r2
      · cases hl
    · cases hl

theorem EP (yf:FP P tt):∀(n:Nat) (t:TypeId) (cs:List Value) (x:DataW H × List MemPlace) (m:Nat) (ls:List eW),DataW.trod enc P w 0 spare held n t cs=some x→nP P tt m t=some ls →
    Rows.uptoBulk x.1≤mx→qK w (Rows.uptoBulk x.1) ls cs
  | 0,_,_,_,_,_,h,_,_=>by simp[DataW.trod]at h
  | n+1,t,cs,x,0,ls,_,hl,_=>by simp[nP]at hl
  | n+1,t,cs,x,m+1,ls,h,hl,hb=>by
    have ih:∀(t:TypeId) (cs:List Value) (x:DataW H × List MemPlace) (ls:List eW),DataW.trod enc P w 0 spare held n t cs=some x→nP P tt m t=some ls→Rows.uptoBulk x.1≤mx→qK w (Rows.uptoBulk x.1) ls cs :=
      fun t cs x ls h1 h2 h3=>EP yf n t cs x m ls h1 h2 h3
    have ih8:∀(t:TypeId) (cs:List Value) (x:DataW H × List MemPlace) (ls:List eW),DataW.trod enc P w 0 spare held n t cs=some x→nP P tt 8 t=some ls→Rows.uptoBulk x.1≤mx→qK w (Rows.uptoBulk x.1) ls cs :=
      fun t cs x ls h1 h2 h3=>EP yf n t cs x 8 ls h1 h2 h3
    unfold nP at hl
    unfold DataW.trod at h
    cases hu:P.underlying t with
    | none=>rw[hu]at hl; cases hl
    | some u =>
      rw[hu]at hl h
      cases u <;> simp only at hl <;> try (first|cases hl)
      case some.bool.refl =>
        rcases cs with _|⟨c,_|⟨c2,r⟩⟩
        · simp at h
        · cases c <;> simp at h
          exact .one (p := .bool) (.bool _) (.bool (IN _) _)
        · simp at h
      case some.int.refl k =>
        rcases cs with _|⟨c,_|⟨c2,r⟩⟩
        · simp at h
        · cases c <;> simp at h
          rename_i k' z
          obtain ⟨⟨rfl,hw⟩,_⟩:=h
          have hk:IntKind.has k' z:=by
            simp only[Lit.wf,Bool.and_eq_true,decide_eq_true_eq]at hw
            exact hw
          exact .one (p := .int k') (x:=z) (.int hk) (.int (IN _) hk)
        · simp at h
      case some.string.refl =>
        rcases cs with _|⟨c,_|⟨c2,r⟩⟩
        · simp at h
        · cases c <;> simp at h
          rename_i s
          obtain ⟨hs,rfl⟩:=h
          have pQ:s.data.toList.length+1≤mx:=by simp only[Rows.uptoBulk]at hb; omega
          have qL:s.size≤mx:=by
            have e:s.data.toList.length=s.size:=by rw[Array.length_toList]; rfl
            omega
          exact .one (p := .str) (x:=s.data.toList) (.str qL) (.str (by simp only[Rows.uptoBulk]; omega))
        · simp at h
      case some.slice e =>
        split at hl <;> try (first|cases hl)
        rename_i T hT
        split at hl <;> try (first|cases hl)
        rename_i qL
        rcases cs with _|⟨c,_|⟨c2,r⟩⟩
        · simp at h
        · cases c <;> try (simp at h; done)
          rename_i A len cap
          cases A with
          | none =>
            have h0:len=0∧cap=0:=by
              split at h <;> simp_all
            obtain ⟨rfl,rfl⟩:=h0
            refine .one (p := .sl T) (x := []) ?_ (.sl (m:=0) (IN _) .nil)
            exact dK.sl (T:=T) (l := []) (t := .no) (A:=none) (cap:=0) (fun _ _=>undef) (Nat.le_refl _) (Nat.zero_le _) (fun i j hi=>by simp at hi) (fun i j x v hx=>by simp at hx) (by simp) (by simp)
          | some a =>
            simp only[Nat.zero_le,true_and]at h
            split at h <;> try (first|cases h)
            rename_i hc
            simp only[Option.bind_eq_some_iff,Option.map_eq_some_iff]at h
            obtain ⟨elems,he,rest,hr,rfl⟩:=h
            obtain ⟨g1,g2⟩:=IP he
            simp only[List.length_range]at g1
            simp only[Rows.uptoBulk]at hb
            have hlen:len≤mx:=by
              have:=Zw (elems.map (·.1))
              simp only[List.length_map]at this
              omega
            have key:∀i,i<len→∃y:T.den,∃ds:List Value,w.cells? 0 (a.add (i*P.cellsOf e)) (P.cellsOf e)=some ds∧cK w [] K4 (T.cells y) ds∧∃n,NR n (T.cells y)∧∀z,elems[i]? = some z→n≤Rows.uptoBulk z.1:=by
              intro i hi
              obtain ⟨z,hz,hz2⟩:=g2 i i (by simp[hi])
              simp only[Option.bind_eq_some_iff]at hz2
              obtain ⟨ds,hd1,Yg⟩:=hz2
              have hmem:z.1∈elems.map (·.1):=List.mem_map.2 ⟨z,List.mem_of_getElem? hz,rfl⟩
              obtain ⟨vs,nw,⟨q,rfl⟩,k2,k3,k4⟩:=ih8 _ _ _ _ Yg (yf e T hT) (by have:=WX hmem; omega)
              obtain ⟨y,hy⟩:=IM T q
              rw[←hy]at k2 k3
              exact ⟨y,ds,hd1,k2,nw,k3,fun z' hz'=>by rw[hz]at hz'; cases hz'; exact k4⟩
            obtain ⟨l,hl1,Q2⟩:=Vk _ len key
            obtain ⟨mm,hm1,hm2⟩:=VJ l (elems.map (·.1)) (by simp; omega) fun i y e hy he=>by
              obtain ⟨_,_,_,nn,hn1,hn2⟩:=Q2 i y hy
              rw[List.getElem?_map]at he
              obtain ⟨z,hz,rfl⟩:=Option.map_eq_some_iff.1 he
              exact ⟨nn,hn1,hn2 z hz⟩
            refine .one (p := .sl T) (x:=l) ?_ (.sl (m:=mm) (by simp only[Rows.uptoBulk]; omega) hm1)
            · have hv:(Value.slice (some a) len cap) = .slice (some a) l.length cap:=by rw[hl1]
              rw[hv]
              refine dK.sl (fun i j=>(w.cell? ((a.add (i*T.sz)).add j)).getD undef) (by omega) (Nat.le_trans hc.2 (Nat.le_of_ble_eq_true rfl)) (fun i j hi hj => ?_) (fun i j y v hy hv => ?_) (by simp) (by simp)
              · obtain ⟨y,hy⟩:∃y,l[i]? = some y:=⟨l[i],by simp[hi]⟩
                obtain ⟨ds,d1,d2,_⟩:=Q2 i y hy
                rw[qL]at d1
                obtain ⟨c1,c2⟩:=HO d1
                obtain ⟨v,v1,v2⟩:=c2 j hj
                have ea:a=⟨a.block,a.off,none⟩:=by
                  have hs0:a.spot=none:=by
                    obtain ⟨y0,hy0⟩:∃y,l[0]? = some y:=⟨l[0],by simp⟩
                    obtain ⟨ds0,d01,_,_⟩:=Q2 0 y0 hy0
                    rw[qL]at d01
                    obtain ⟨_,c02⟩:=HO d01
                    obtain ⟨v0,_,v02⟩:=c02 0 (Ty.Eb T)
                    simp only[Nat.zero_mul,Addr.add,if_true]at v02
                    exact WY v02
                  cases a; simp_all
                refine ⟨a.block,a.off,by rw[←ea],?_,free0 _ _⟩
                have e2:=addr_add (a:=a) (by rw[ea]) (i*T.sz) j
                rw[e2,v2]; rfl
              · have hi:i<l.length:=(List.getElem?_eq_some_iff.1 hy).1
                obtain ⟨ds,d1,d2,_⟩:=Q2 i y hy
                rw[qL]at d1
                obtain ⟨c1,c2⟩:=HO d1
                have hj:j<T.sz:=by rw[←T.lU y]; exact (List.getElem?_eq_some_iff.1 hv).1
                obtain ⟨u,v1,v2⟩:=c2 j hj
                rw[v2]
                exact d2.2 j v u hv v1
        · simp at h
      case some.struct fs =>
        simp only at h
        split at h
        · rename_i Cs
          simp only[Option.map_eq_some_iff]at h
          obtain ⟨xs,hx,rfl⟩:=h
          simp only[Rows.uptoBulk]at hb
          rw[←Cs]at hl
          have:=Jz ih cs fs.toList 0 xs ls hx hl (by omega)
          exact qK.le (by simpa using this) (by simp only[Rows.uptoBulk]; omega)
        · cases h
      case some.array k e =>
        simp only at h
        split at h
        · rename_i Cs
          simp only[Option.map_eq_some_iff]at h
          obtain ⟨xs,hx,rfl⟩:=h
          simp only[Rows.uptoBulk]at hb
          rw[←Cs]at hl
          obtain ⟨g1,g2⟩:=IP hx
          cases ha:nP P tt m e with
          | none =>
            rw[ha]at hl
            cases k with
            | zero =>
              unfold yF at hl
              split at hl
              · rename_i hj
                cases hl
                have:cs = []:=List.eq_nil_of_length_eq_zero hj.symm
                subst this
                exact .nil
              · cases hl
            | succ k=>simp[yF]at hl
          | some a =>
            rw[ha]at hl
            have:=PM ih cs ha k 0 ls (xs.map (·.1)) (by simpa using g1) (fun q y hy=>by
              rw[List.getElem?_map]at hy
              obtain ⟨z,hz,rfl⟩:=Option.map_eq_some_iff.1 hy
              have hq:q<k:=by
                have:=(List.getElem?_eq_some_iff.1 hz).1
                simp at g1
                omega
              obtain ⟨y2,hy1,hy2⟩:=g2 q q (by simp[hq])
              rw[hz]at hy1
              cases hy1
              exact ⟨z,by rw[Nat.zero_add]; exact hy2,rfl⟩) (by omega) (by simpa using hl)
            exact qK.le (by simpa using this) (by simp only[Rows.uptoBulk]; omega)
        · cases h

theorem NS {N:Nat} (yf:FP P tt) {t:TypeId} {v:Value} {d:DataW H} {ps:List MemPlace} {p:eW} {base:Nat} (ho:Vm P t=true) (hl:nP P tt 8 t=some [p]) (Cu:Value.okWide P w .any base t v)
    (h:DataW.Trod enc P w 0 spare held t v d ps) (hb:Rows.uptoBulk d≤N) (hN:N≤mx):∃x:p.den,dK w [] K4 (p.enc x) v∧∃n,Wt n (p.enc x)∧n≤N:=by
  obtain ⟨n,h⟩:=h
  obtain ⟨vs,nw,⟨x,rfl⟩,h2,h3,h4⟩:=EP yf n t _ _ 8 _ h hl (Nat.le_trans hb hN)
  have hc:v.cells.toList = [v]:=by
    unfold Vm at ho
    unfold Value.okWide at Cu
    cases hu:P.underlying t with
    | none=>rw[hu]at ho; cases ho
    | some u =>
      rw[hu]at ho Cu
      cases u <;> simp only at ho <;> try (first|cases ho) <;> (cases v <;> simp[Cell.okWide,Cell.ok,hu]at Cu <;> rfl)
  rw[hc]at h2
  have h3':NR nw [p.enc x.1]:=h3
  cases h3' with
  | cons a b=>cases b; exact ⟨x.1,h2.head,_,a,Nat.le_trans h4 hb⟩

theorem arg_aggW {N:Nat} (yf:FP P tt) {t:TypeId} {v:Value} {d:DataW H} {ps:List MemPlace} {T:Ty} {base:Nat} (ho:Vn P t=true) (hl:nP P tt 8 t=some T.leaves) (Cu:Value.okWide P w .any base t v)
    (h:DataW.Trod enc P w 0 spare held t v d ps) (hb:Rows.uptoBulk d≤N) (hN:N≤mx):∃x:T.den,dK w [] K4 (.agg (T.cells x)) v∧∃n,NR n (T.cells x)∧n≤N:=by
  obtain ⟨n,h⟩:=h
  obtain ⟨vs,nw,⟨x,rfl⟩,h2,h3,h4⟩:=EP yf n t _ _ 8 _ h hl (Nat.le_trans hb hN)
  obtain ⟨y,hy⟩:=IM T x
  rw[←hy]at h2 h3
  have hc:∃cs,v = .agg cs:=by
    unfold Vn at ho
    unfold Value.okWide at Cu
    cases hu:P.underlying t with
    | none=>rw[hu]at ho; cases ho
    | some u =>
      rw[hu]at ho Cu
      cases u <;> simp only at ho <;> try (first|cases ho) <;> (obtain ⟨cs,hc,_⟩:=Cu; exact ⟨cs,hc⟩)
  obtain ⟨cs,rfl⟩:=hc
  exact ⟨y, .agg (by have:=h2.1; simpa [Value.cells]using this) fun j v d hv hd=>h2.2 j v d hv (by simpa [Value.cells]using hd),nw,h3,Nat.le_trans h4 hb⟩
end
end Go.ay

/-
  Functions of the program as pure Lean functions, and the ties; printed by wip/tools/emit.py.
-/
set_option maxRecDepth 100000
namespace Go.Proofs.YtmlkkgfenfdndaaGreatDoor
open Go Go.ay

/-! ### humpyard/humpyardlaw04.Fit -/
abbrev dt (R:Type):Type:=Raw→Int→(Json→Option R)→Option R
abbrev pA:List bN := [.agg [.int .i64, .int .i64, .int .i64, .sl (.int .i64), .sl .raw], .leaf (.int .i64)]
abbrev pB:List aH := []
noncomputable def lR {R:Type} (fn:dt R):bN.av pA→aH.av pB→(V→az→Option R)→Option R:=fun x y k=>fn (⟨x.1.1,x.1.2.1,x.1.2.2.1,x.1.2.2.2.1,x.1.2.2.2.2.1⟩:Raw) x.2.1 (fun q0=>k (.agg [.int .i64 q0.kind, .int .i64 q0.num.aB, .int .i64 q0.num.exp, .str q0.text, .sl .str q0.names .no, .sl .json q0.items .no]) [])
abbrev jT (R:Type):Type:=Nat→Int→Int→Int→aj→Bool→Int→Raw→Int→Int→Int→aj→Int→Int→Int→aj→(List aj)→(List Json)→Raw→(Int→Int→Int→aj→Bool→Raw→Int→Int→Int→aj→Int→Int→Int→aj→(List aj)→(List Json)→Raw→Option R)→Option R
abbrev lS (R:Type):Type:=Nat→Int→Int→Int→Raw→Int→Int→Int→aj→Int→Int→Int→aj→(List aj)→(List Json)→(Int→Int→Int→aj→Int→Int→Int→aj→(List aj)→(List Json)→Option R)→Option R
noncomputable def oc (R:Type) (cb:ja R) (dp:mE R) (aJ:dt R) (cz:jW R):Env R:=fun i=>match i with
  | 37=>some (true,(aA xd xe (Dd cb) bg))
  | 28=>some (true,(aA zR zS (Ep dp) bg))
  | 16=>some (true,(aA pA pB (lR aJ) bg))
  | 35=>some (true,(aA xb xc (Dc cz) bg))
  | _=>none
theorem OR (R:Type) (aJ:dt R) (Dn:ay.Spec.Ok Tryz.prog 16 (aA pA pB (lR aJ) bg)):p6 Tryz.prog (oc R cb dp aJ cz):=by
  intro i b sp h
  unfold oc at h
  split at h
  · cases h; exact ⟨(EY R _ (aO _)),fun h=>nomatch h⟩
  · cases h; exact ⟨(FU R _ (aO _)),fun h=>nomatch h⟩
  · cases h; exact ⟨Dn,fun h=>nomatch h⟩
  · cases h; exact ⟨(EX R _ (aO _)),fun h=>nomatch h⟩
  · cases h

noncomputable def tZ {R:Type} (fy:Int→Int→Int→aj→Bool→Int→Raw→Int→Int→Int→aj→Int→Int→Int→aj→(List aj)→(List Json)→Raw→Option R) (x23:Int) (XY:Int) (XZ:Int) (Q5:aj) (x27:Bool) (x28:Int) (Ji:Raw) (Vw:Int) (x31:Int) (x32:Int) (x33:aj) (x34:Int) (x35:Int) (x36:Int) (x37:aj) (x38:List aj) (x39:List Json) (UH:Raw) (e0:Int→Int→Int→aj→Bool→Raw→Int→Int→Int→aj→Int→Int→Int→aj→(List aj)→(List Json)→Raw→Option R):Option R :=
  bif (decide (x28<(x38.length:Int)))then (bif x27 then (fy x23 XY XZ Q5 true (IntKind.i64.wrap (x28+1)) (⟨Ji.kind,Ji.aB,Ji.exp,Ji.text,Ji.items⟩:Raw) Vw x31 x32 x33 x34 x35 x36 x37 x38 x39 (⟨UH.kind,UH.aB,UH.exp,UH.text,UH.items⟩:Raw))else (cU (decide ((0:Int)≤x28)&&decide (x28<x38.length)) (fy x23 XY XZ Q5 ((x38.getD x28.toNat (Ty.cn .str))==Q5) (IntKind.i64.wrap (x28+1)) (⟨Ji.kind,Ji.aB,Ji.exp,Ji.text,Ji.items⟩:Raw) Vw x31 x32 x33 x34 x35 x36 x37 x38 x39 (⟨UH.kind,UH.aB,UH.exp,UH.text,UH.items⟩:Raw))))else (e0 x23 XY XZ Q5 x27 (⟨Ji.kind,Ji.aB,Ji.exp,Ji.text,Ji.items⟩:Raw) Vw x31 x32 x33 x34 x35 x36 x37 x38 x39 (⟨UH.kind,UH.aB,UH.exp,UH.text,UH.items⟩:Raw))
noncomputable def bA {R:Type}:jT R
  | 0,_,_,_,_,_,_,_,_,_,_,_,_,_,_,_,_,_,_,_=>none
  | n+1,lY,lZ,mF,tQ,EB,EC,Li,Lj,Lk,Ll,AB,Gi,NT,NU,x14',x15',x16',x17',e0=>tZ (fun lY lZ mF tQ EB EC Li Lj Lk Ll AB Gi NT NU x14' x15' x16' x17'=>bA n lY lZ mF tQ EB EC Li Lj Lk Ll AB Gi NT NU x14' x15' x16' x17' e0) lY lZ mF tQ EB EC Li Lj Lk Ll AB Gi NT NU x14' x15' x16' x17' e0
noncomputable def ua:Hint := { live := [1,2,4,5,6,7,8,9,10,11],own := [],rows := [],cells := [],drop := [],out := [1,2,4,5,6,7,8,9,10] }
abbrev kQ:Type:=Int × Int × Int × aj × Bool × Int × Raw × Int × Int × Int × aj × Int × Int × Int × aj × (List aj) × (List Json) × Raw
noncomputable def rH:kQ→St:=fun d=>⟨[.undef, .int .i64 d.1, .ptr 0 0, .undef, .ptr 1 0, .int .i64 d.2.1, .ptr 2 0, .int .i64 d.2.2.1, .ptr 3 0, .str d.2.2.2.1, .bool d.2.2.2.2.1, .int .i64 d.2.2.2.2.2.1, .undef, .undef, .undef, .undef, .undef, .undef, .undef, .undef, .undef, .undef, .undef, .undef, .undef, .undef, .undef, .undef, .undef, .undef, .undef, .undef, .undef, .undef, .undef, .undef, .undef, .undef, .undef, .undef, .undef, .undef, .undef, .undef, .undef, .undef, .undef, .undef, .undef, .undef, .undef, .undef, .undef, .undef, .undef, .undef, .undef, .undef, .undef, .undef, .undef, .undef, .undef, .undef, .undef, .undef, .undef, .undef, .undef, .undef, .undef, .undef, .undef, .undef, .undef, .undef, .undef, .undef, .undef, .undef, .undef, .undef, .undef, .undef, .undef, .undef, .undef, .undef, .undef, .undef, .undef, .undef, .undef, .undef, .undef, .undef, .undef, .undef, .undef, .undef, .undef, .undef, .undef, .undef, .undef], [.cells [.int .i64 d.2.2.2.2.2.2.1.kind, .int .i64 d.2.2.2.2.2.2.1.aB, .int .i64 d.2.2.2.2.2.2.1.exp, .sl (.int .i64) d.2.2.2.2.2.2.1.text .no, .sl .raw d.2.2.2.2.2.2.1.items .no], .cells [.int .i64 d.2.2.2.2.2.2.2.1, .int .i64 d.2.2.2.2.2.2.2.2.1, .int .i64 d.2.2.2.2.2.2.2.2.2.1, .str d.2.2.2.2.2.2.2.2.2.2.1, .cJ, .cJ], .cells [.int .i64 d.2.2.2.2.2.2.2.2.2.2.2.1, .int .i64 d.2.2.2.2.2.2.2.2.2.2.2.2.1, .int .i64 d.2.2.2.2.2.2.2.2.2.2.2.2.2.1, .str d.2.2.2.2.2.2.2.2.2.2.2.2.2.2.1, .sl .str d.2.2.2.2.2.2.2.2.2.2.2.2.2.2.2.1 (.own 4), .sl .json d.2.2.2.2.2.2.2.2.2.2.2.2.2.2.2.2.1 (.own 5)], .cells [.int .i64 d.2.2.2.2.2.2.2.2.2.2.2.2.2.2.2.2.2.kind, .int .i64 d.2.2.2.2.2.2.2.2.2.2.2.2.2.2.2.2.2.aB, .int .i64 d.2.2.2.2.2.2.2.2.2.2.2.2.2.2.2.2.2.exp, .sl (.int .i64) d.2.2.2.2.2.2.2.2.2.2.2.2.2.2.2.2.2.text .no, .sl .raw d.2.2.2.2.2.2.2.2.2.2.2.2.2.2.2.2.2.items .no], .tok, .tok]⟩
noncomputable def xX {R:Type} (K:Ex→St→Option R) (q0:Int) (q1:Int) (q2:Int) (q3:aj) (q4:Bool) (q5:Raw) (q6:Int) (q7:Int) (q8:Int) (q9:aj) (NF:Int) (q11:Int) (q12:Int) (q13:aj) (q14:List aj) (q15:List Json) (q16:Raw):Option R:=K (.exit 3) ⟨[.undef, .int .i64 q0, .ptr 0 0, .undef, .ptr 1 0, .int .i64 q1, .ptr 2 0, .int .i64 q2, .ptr 3 0, .str q3, .bool q4, .undef, .undef, .undef, .undef, .undef, .undef, .undef, .undef, .undef, .undef, .undef, .undef, .undef, .undef, .undef, .undef, .undef, .undef, .undef, .undef, .undef, .undef, .undef, .undef, .undef, .undef, .undef, .undef, .undef, .undef, .undef, .undef, .undef, .undef, .undef, .undef, .undef, .undef, .undef, .undef, .undef, .undef, .undef, .undef, .undef, .undef, .undef, .undef, .undef, .undef, .undef, .undef, .undef, .undef, .undef, .undef, .undef, .undef, .undef, .undef, .undef, .undef, .undef, .undef, .undef, .undef, .undef, .undef, .undef, .undef, .undef, .undef, .undef, .undef, .undef, .undef, .undef, .undef, .undef, .undef, .undef, .undef, .undef, .undef, .undef, .undef, .undef, .undef, .undef, .undef, .undef, .undef, .undef, .undef], [.cells [.int .i64 q5.kind, .int .i64 q5.aB, .int .i64 q5.exp, .sl (.int .i64) q5.text .no, .sl .raw q5.items .no], .cells [.int .i64 q6, .int .i64 q7, .int .i64 q8, .str q9, .cJ, .cJ], .cells [.int .i64 NF, .int .i64 q11, .int .i64 q12, .str q13, .sl .str q14 (.own 4), .sl .json q15 (.own 5)], .cells [.int .i64 q16.kind, .int .i64 q16.aB, .int .i64 q16.exp, .sl (.int .i64) q16.text .no, .sl .raw q16.items .no], .tok, .tok]⟩
noncomputable def zj {R:Type} (K:Ex→St→Option R) (rc:kQ→Option R) (d:kQ):Option R:=tZ (fun z0 z1 z2 z3 z4 z5 z6 z7 z8 z9 QL wc z12 Se z14 z15 z16 z17=>rc (z0,z1,z2,z3,z4,z5,z6,z7,z8,z9,QL,wc,z12,Se,z14,z15,z16,z17)) d.1 d.2.1 d.2.2.1 d.2.2.2.1 d.2.2.2.2.1 d.2.2.2.2.2.1 d.2.2.2.2.2.2.1 d.2.2.2.2.2.2.2.1 d.2.2.2.2.2.2.2.2.1 d.2.2.2.2.2.2.2.2.2.1 d.2.2.2.2.2.2.2.2.2.2.1 d.2.2.2.2.2.2.2.2.2.2.2.1 d.2.2.2.2.2.2.2.2.2.2.2.2.1 d.2.2.2.2.2.2.2.2.2.2.2.2.2.1 d.2.2.2.2.2.2.2.2.2.2.2.2.2.2.1 d.2.2.2.2.2.2.2.2.2.2.2.2.2.2.2.1 d.2.2.2.2.2.2.2.2.2.2.2.2.2.2.2.2.1 d.2.2.2.2.2.2.2.2.2.2.2.2.2.2.2.2.2 (xX K)
noncomputable def oj {R:Type} (K:Ex→St→Option R) (n:Nat) (d:kQ):Option R:=bA n d.1 d.2.1 d.2.2.1 d.2.2.2.1 d.2.2.2.2.1 d.2.2.2.2.2.1 d.2.2.2.2.2.2.1 d.2.2.2.2.2.2.2.1 d.2.2.2.2.2.2.2.2.1 d.2.2.2.2.2.2.2.2.2.1 d.2.2.2.2.2.2.2.2.2.2.1 d.2.2.2.2.2.2.2.2.2.2.2.1 d.2.2.2.2.2.2.2.2.2.2.2.2.1 d.2.2.2.2.2.2.2.2.2.2.2.2.2.1 d.2.2.2.2.2.2.2.2.2.2.2.2.2.2.1 d.2.2.2.2.2.2.2.2.2.2.2.2.2.2.2.1 d.2.2.2.2.2.2.2.2.2.2.2.2.2.2.2.2.1 d.2.2.2.2.2.2.2.2.2.2.2.2.2.2.2.2.2 (xX K)
abbrev kR:List bN := [.leaf (.undef), .leaf (.int .i64), .leaf (.ptr 0 0), .leaf (.undef), .leaf (.ptr 1 0), .leaf (.int .i64), .leaf (.ptr 2 0), .leaf (.int .i64), .leaf (.ptr 3 0), .leaf (.str), .leaf (.bool), .leaf (.int .i64), .leaf (.undef), .leaf (.undef), .leaf (.undef), .leaf (.undef), .leaf (.undef), .leaf (.undef), .leaf (.undef), .leaf (.undef), .leaf (.undef), .leaf (.undef), .leaf (.undef), .leaf (.undef), .leaf (.undef), .leaf (.undef), .leaf (.undef), .leaf (.undef), .leaf (.undef), .leaf (.undef), .leaf (.undef), .leaf (.undef), .leaf (.undef), .leaf (.undef), .leaf (.undef), .leaf (.undef), .leaf (.undef), .leaf (.undef), .leaf (.undef), .leaf (.undef), .leaf (.undef), .leaf (.undef), .leaf (.undef), .leaf (.undef), .leaf (.undef), .leaf (.undef), .leaf (.undef), .leaf (.undef), .leaf (.undef), .leaf (.undef), .leaf (.undef), .leaf (.undef), .leaf (.undef), .leaf (.undef), .leaf (.undef), .leaf (.undef), .leaf (.undef), .leaf (.undef), .leaf (.undef), .leaf (.undef), .leaf (.undef), .leaf (.undef), .leaf (.undef), .leaf (.undef), .leaf (.undef), .leaf (.undef), .leaf (.undef), .leaf (.undef), .leaf (.undef), .leaf (.undef), .leaf (.undef), .leaf (.undef), .leaf (.undef), .leaf (.undef), .leaf (.undef), .leaf (.undef), .leaf (.undef), .leaf (.undef), .leaf (.undef), .leaf (.undef), .leaf (.undef), .leaf (.undef), .leaf (.undef), .leaf (.undef), .leaf (.undef), .leaf (.undef), .leaf (.undef), .leaf (.undef), .leaf (.undef), .leaf (.undef), .leaf (.undef), .leaf (.undef), .leaf (.undef), .leaf (.undef), .leaf (.undef), .leaf (.undef), .leaf (.undef), .leaf (.undef), .leaf (.undef), .leaf (.undef), .leaf (.undef), .leaf (.undef), .leaf (.undef), .leaf (.undef), .leaf (.undef)]
abbrev kS:List aH := [.cells [.int .i64, .int .i64, .int .i64, .sl (.int .i64), .sl .raw], .cells [.int .i64, .int .i64, .int .i64, .str, .cJ, .cJ], .cells [.int .i64, .int .i64, .int .i64, .str, .MP .str 4, .MP .json 5], .cells [.int .i64, .int .i64, .int .i64, .sl (.int .i64), .sl .raw], .tok, .tok]
noncomputable def zk (x:bN.av kR) (y:aH.av kS):Nat:=(Int.natAbs x.2.1+Int.natAbs x.2.2.2.2.2.1+Int.natAbs x.2.2.2.2.2.2.2.1+List.length x.2.2.2.2.2.2.2.2.2.1+Int.natAbs x.2.2.2.2.2.2.2.2.2.2.2.1+Raw.fu (⟨y.1.1,y.1.2.1,y.1.2.2.1,y.1.2.2.2.1,y.1.2.2.2.2.1⟩:Raw)+Int.natAbs y.2.1.1+Int.natAbs y.2.1.2.1+Int.natAbs y.2.1.2.2.1+List.length y.2.1.2.2.2.1+Int.natAbs y.2.2.1.1+Int.natAbs y.2.2.1.2.1+Int.natAbs y.2.2.1.2.2.1+List.length y.2.2.1.2.2.2.1+List.length y.2.2.1.2.2.2.2.1+List.length y.2.2.1.2.2.2.2.2.1+Raw.fu (⟨y.2.2.2.1.1,y.2.2.2.1.2.1,y.2.2.2.1.2.2.1,y.2.2.2.1.2.2.2.1,y.2.2.2.1.2.2.2.2.1⟩:Raw)+64)
noncomputable def zm (x:bN.av kR) (y:aH.av kS):kQ:=(x.2.1,x.2.2.2.2.2.1,x.2.2.2.2.2.2.2.1,x.2.2.2.2.2.2.2.2.2.1,x.2.2.2.2.2.2.2.2.2.2.1,x.2.2.2.2.2.2.2.2.2.2.2.1,(⟨y.1.1,y.1.2.1,y.1.2.2.1,y.1.2.2.2.1,y.1.2.2.2.2.1⟩:Raw),y.2.1.1,y.2.1.2.1,y.2.1.2.2.1,y.2.1.2.2.2.1,y.2.2.1.1,y.2.2.1.2.1,y.2.2.1.2.2.1,y.2.2.1.2.2.2.1,y.2.2.1.2.2.2.2.1,y.2.2.1.2.2.2.2.2.1,(⟨y.2.2.2.1.1,y.2.2.2.1.2.1,y.2.2.2.1.2.2.1,y.2.2.2.1.2.2.2.1,y.2.2.2.1.2.2.2.2.1⟩:Raw))
noncomputable def xY {R:Type} (L:jT R):bN.av kR→aH.av kS→(Ex→St→Option R)→Option R:=fun x y K=>L (zk x y) x.2.1 x.2.2.2.2.2.1 x.2.2.2.2.2.2.2.1 x.2.2.2.2.2.2.2.2.2.1 x.2.2.2.2.2.2.2.2.2.2.1 x.2.2.2.2.2.2.2.2.2.2.2.1 (⟨y.1.1,y.1.2.1,y.1.2.2.1,y.1.2.2.2.1,y.1.2.2.2.2.1⟩:Raw) y.2.1.1 y.2.1.2.1 y.2.1.2.2.1 y.2.1.2.2.2.1 y.2.2.1.1 y.2.2.1.2.1 y.2.2.1.2.2.1 y.2.2.1.2.2.2.1 y.2.2.1.2.2.2.2.1 y.2.2.1.2.2.2.2.2.1 (⟨y.2.2.2.1.1,y.2.2.2.1.2.1,y.2.2.2.1.2.2.1,y.2.2.2.1.2.2.2.1,y.2.2.2.1.2.2.2.2.1⟩:Raw) (xX K)
noncomputable def mB {R:Type} (cb:ja R) (aJ:dt R) (bA:jT R) (fy:Int→Int→Int→Raw→Int→Int→Int→aj→Int→Int→Int→aj→(List aj)→(List Json)→Option R) (x7:Int) (x8:Int) (x9:Int) (ym:Raw) (Oe:Int) (x12:Int) (NG:Int) (Vt:aj) (pX:Int) (tG:Int) (nj:Int) (tH:aj) (C1:List aj) (AV:List Json) (e0:Int→Int→Int→aj→Int→Int→Int→aj→(List aj)→(List Json)→Option R):Option R :=
  bif (decide (x9<(ym.items.length:Int)))then (bif (decide (x9<(12:Int)))then (bif (decide (x7<(16:Int)))then (cU (decide ((0:Int)≤x9)&&decide (x9<ym.items.length)) (cU (decide ((0:Int)≤(min (((ym.items.getD x9.toNat (Ty.cn .raw)).text).length:Int) 8))&&decide ((min (((ym.items.getD x9.toNat (Ty.cn .raw)).text).length:Int) 8)≤((ym.items.getD x9.toNat (Ty.cn .raw)).text).length)) (cU (decide ((0:Int)≤(min (((ym.items.getD x9.toNat (Ty.cn .raw)).text).length:Int) 8))) (cb ((((ym.items.getD x9.toNat (Ty.cn .raw)).text).drop 0).take ((min (((ym.items.getD x9.toNat (Ty.cn .raw)).text).length:Int) 8).toNat - 0)) (fun Sg=>bif (x8==7)then (bA (Int.natAbs x7+Int.natAbs x8+Int.natAbs x9+List.length Sg+Int.natAbs 0+Raw.fu (⟨ym.kind,ym.aB,ym.exp,ym.text,ym.items⟩:Raw)+Int.natAbs Oe+Int.natAbs x12+Int.natAbs NG+List.length Vt+Int.natAbs pX+Int.natAbs tG+Int.natAbs nj+List.length tH+List.length C1+List.length AV+Raw.fu (⟨(ym.items.getD x9.toNat (Ty.cn .raw)).kind,(ym.items.getD x9.toNat (Ty.cn .raw)).aB,(ym.items.getD x9.toNat (Ty.cn .raw)).exp,(ym.items.getD x9.toNat (Ty.cn .raw)).text,(ym.items.getD x9.toNat (Ty.cn .raw)).items⟩:Raw)+64) x7 x8 x9 Sg false 0 (⟨ym.kind,ym.aB,ym.exp,ym.text,ym.items⟩:Raw) Oe x12 NG Vt pX tG nj tH C1 AV (⟨(ym.items.getD x9.toNat (Ty.cn .raw)).kind,(ym.items.getD x9.toNat (Ty.cn .raw)).aB,(ym.items.getD x9.toNat (Ty.cn .raw)).exp,(ym.items.getD x9.toNat (Ty.cn .raw)).text,(ym.items.getD x9.toNat (Ty.cn .raw)).items⟩:Raw) (fun Pr Sk Sl XX Xd OJ X0 Z1 Z2 Z3 X1 Z4 Z5 y55 Xe Xf Xg=>bif Xd then (fy Pr Sk (IntKind.i64.wrap (Sl+1)) (⟨OJ.kind,OJ.aB,OJ.exp,OJ.text,OJ.items⟩:Raw) X0 Z1 Z2 Z3 X1 Z4 Z5 y55 Xe Xf)else (cU (decide ((Xe.length+1)*16≤140737488355328)) (aJ (⟨Xg.kind,Xg.aB,Xg.exp,Xg.text,Xg.items⟩:Raw) (IntKind.i64.wrap (Pr+1)) (fun Uo=>cU (decide ((Xf.length+1)*88≤140737488355328)) (fy Pr Sk (IntKind.i64.wrap (Sl+1)) (⟨OJ.kind,OJ.aB,OJ.exp,OJ.text,OJ.items⟩:Raw) X0 Z1 Z2 Z3 X1 Z4 Z5 y55 (Xe++([XX]:List aj)) (Xf++([(⟨Uo.kind,⟨Uo.num.aB,Uo.num.exp⟩,Uo.text,Uo.names,Uo.items⟩:Json)]:List Json))))))))else (aJ (⟨(ym.items.getD x9.toNat (Ty.cn .raw)).kind,(ym.items.getD x9.toNat (Ty.cn .raw)).aB,(ym.items.getD x9.toNat (Ty.cn .raw)).exp,(ym.items.getD x9.toNat (Ty.cn .raw)).text,(ym.items.getD x9.toNat (Ty.cn .raw)).items⟩:Raw) (IntKind.i64.wrap (x7+1)) (fun Vr=>cU (decide ((AV.length+1)*88≤140737488355328)) (fy x7 x8 (IntKind.i64.wrap (x9+1)) (⟨ym.kind,ym.aB,ym.exp,ym.text,ym.items⟩:Raw) Oe x12 NG Vt pX tG nj tH C1 (AV++([(⟨Vr.kind,⟨Vr.num.aB,Vr.num.exp⟩,Vr.text,Vr.names,Vr.items⟩:Json)]:List Json))))))))))else (e0 Oe x12 NG Vt pX tG nj tH C1 AV))else (e0 Oe x12 NG Vt pX tG nj tH C1 AV))else (e0 Oe x12 NG Vt pX tG nj tH C1 AV)
noncomputable def bn {R:Type} (aJ:dt R):lS R
  | 0,_,_,_,_,_,_,_,_,_,_,_,_,_,_,_=>none
  | n+1,lY,lZ,mF,tQ,EB,EC,Li,Lj,Lk,Ll,AB,Gi,NT,NU,e0=>mB cb aJ bA (fun lY lZ mF tQ EB EC Li Lj Lk Ll AB Gi NT NU=>bn aJ n lY lZ mF tQ EB EC Li Lj Lk Ll AB Gi NT NU e0) lY lZ mF tQ EB EC Li Lj Lk Ll AB Gi NT NU e0
noncomputable def ub:Hint := { live := [1,2,4,5,6,7],own := [],rows := [],cells := [(2,4, .str,false),(2,5, .json,false)],drop := [],out := [4,6] }
abbrev kT:Type:=Int × Int × Int × Raw × Int × Int × Int × aj × Int × Int × Int × aj × (List aj) × (List Json)
noncomputable def rI:kT→St:=fun d=>⟨[.undef, .int .i64 d.1, .ptr 0 0, .undef, .ptr 1 0, .int .i64 d.2.1, .ptr 2 0, .int .i64 d.2.2.1, .undef, .undef, .undef, .undef, .undef, .undef, .undef, .undef, .undef, .undef, .undef, .undef, .undef, .undef, .undef, .undef, .undef, .undef, .undef, .undef, .undef, .undef, .undef, .undef, .undef, .undef, .undef, .undef, .undef, .undef, .undef, .undef, .undef, .undef, .undef, .undef, .undef, .undef, .undef, .undef, .undef, .undef, .undef, .undef, .undef, .undef, .undef, .undef, .undef, .undef, .undef, .undef, .undef, .undef, .undef, .undef, .undef, .undef, .undef, .undef, .undef, .undef, .undef, .undef, .undef, .undef, .undef, .undef, .undef, .undef, .undef, .undef, .undef, .undef, .undef, .undef, .undef, .undef, .undef, .undef, .undef, .undef, .undef, .undef, .undef, .undef, .undef, .undef, .undef, .undef, .undef, .undef, .undef, .undef, .undef, .undef, .undef], [.cells [.int .i64 d.2.2.2.1.kind, .int .i64 d.2.2.2.1.aB, .int .i64 d.2.2.2.1.exp, .sl (.int .i64) d.2.2.2.1.text .no, .sl .raw d.2.2.2.1.items .no], .cells [.int .i64 d.2.2.2.2.1, .int .i64 d.2.2.2.2.2.1, .int .i64 d.2.2.2.2.2.2.1, .str d.2.2.2.2.2.2.2.1, .cJ, .cJ], .cells [.int .i64 d.2.2.2.2.2.2.2.2.1, .int .i64 d.2.2.2.2.2.2.2.2.2.1, .int .i64 d.2.2.2.2.2.2.2.2.2.2.1, .str d.2.2.2.2.2.2.2.2.2.2.2.1, .sl .str d.2.2.2.2.2.2.2.2.2.2.2.2.1 (.own 3), .sl .json d.2.2.2.2.2.2.2.2.2.2.2.2.2 (.own 4)], .tok, .tok]⟩
noncomputable def xZ {R:Type} (K:Ex→St→Option R) (q0:Int) (q1:Int) (q2:Int) (q3:aj) (q4:Int) (q5:Int) (q6:Int) (q7:aj) (q8:List aj) (q9:List Json):Option R:=K (.exit 1) ⟨[.undef, .undef, .undef, .undef, .ptr 0 0, .undef, .ptr 1 0, .undef, .undef, .undef, .undef, .undef, .undef, .undef, .undef, .undef, .undef, .undef, .undef, .undef, .undef, .undef, .undef, .undef, .undef, .undef, .undef, .undef, .undef, .undef, .undef, .undef, .undef, .undef, .undef, .undef, .undef, .undef, .undef, .undef, .undef, .undef, .undef, .undef, .undef, .undef, .undef, .undef, .undef, .undef, .undef, .undef, .undef, .undef, .undef, .undef, .undef, .undef, .undef, .undef, .undef, .undef, .undef, .undef, .undef, .undef, .undef, .undef, .undef, .undef, .undef, .undef, .undef, .undef, .undef, .undef, .undef, .undef, .undef, .undef, .undef, .undef, .undef, .undef, .undef, .undef, .undef, .undef, .undef, .undef, .undef, .undef, .undef, .undef, .undef, .undef, .undef, .undef, .undef, .undef, .undef, .undef, .undef, .undef, .undef], [.cells [.int .i64 q0, .int .i64 q1, .int .i64 q2, .str q3, .cJ, .cJ], .cells [.int .i64 q4, .int .i64 q5, .int .i64 q6, .str q7, .sl .str q8 (.own 2), .sl .json q9 (.own 3)], .tok, .tok]⟩
noncomputable def zn {R:Type} (cb:ja R) (aJ:dt R) (bA:jT R) (K:Ex→St→Option R) (rc:kT→Option R) (d:kT):Option R:=mB cb aJ bA (fun z0 z1 z2 z3 z4 z5 z6 z7 z8 z9 QL wc z12 Se=>rc (z0,z1,z2,z3,z4,z5,z6,z7,z8,z9,QL,wc,z12,Se)) d.1 d.2.1 d.2.2.1 d.2.2.2.1 d.2.2.2.2.1 d.2.2.2.2.2.1 d.2.2.2.2.2.2.1 d.2.2.2.2.2.2.2.1 d.2.2.2.2.2.2.2.2.1 d.2.2.2.2.2.2.2.2.2.1 d.2.2.2.2.2.2.2.2.2.2.1 d.2.2.2.2.2.2.2.2.2.2.2.1 d.2.2.2.2.2.2.2.2.2.2.2.2.1 d.2.2.2.2.2.2.2.2.2.2.2.2.2 (xZ K)
noncomputable def om {R:Type} (aJ:dt R) (K:Ex→St→Option R) (n:Nat) (d:kT):Option R:=bn aJ n d.1 d.2.1 d.2.2.1 d.2.2.2.1 d.2.2.2.2.1 d.2.2.2.2.2.1 d.2.2.2.2.2.2.1 d.2.2.2.2.2.2.2.1 d.2.2.2.2.2.2.2.2.1 d.2.2.2.2.2.2.2.2.2.1 d.2.2.2.2.2.2.2.2.2.2.1 d.2.2.2.2.2.2.2.2.2.2.2.1 d.2.2.2.2.2.2.2.2.2.2.2.2.1 d.2.2.2.2.2.2.2.2.2.2.2.2.2 (xZ K)
abbrev kU:List bN := [.leaf (.undef), .leaf (.int .i64), .leaf (.ptr 0 0), .leaf (.undef), .leaf (.ptr 1 0), .leaf (.int .i64), .leaf (.ptr 2 0), .leaf (.int .i64), .leaf (.undef), .leaf (.undef), .leaf (.undef), .leaf (.undef), .leaf (.undef), .leaf (.undef), .leaf (.undef), .leaf (.undef), .leaf (.undef), .leaf (.undef), .leaf (.undef), .leaf (.undef), .leaf (.undef), .leaf (.undef), .leaf (.undef), .leaf (.undef), .leaf (.undef), .leaf (.undef), .leaf (.undef), .leaf (.undef), .leaf (.undef), .leaf (.undef), .leaf (.undef), .leaf (.undef), .leaf (.undef), .leaf (.undef), .leaf (.undef), .leaf (.undef), .leaf (.undef), .leaf (.undef), .leaf (.undef), .leaf (.undef), .leaf (.undef), .leaf (.undef), .leaf (.undef), .leaf (.undef), .leaf (.undef), .leaf (.undef), .leaf (.undef), .leaf (.undef), .leaf (.undef), .leaf (.undef), .leaf (.undef), .leaf (.undef), .leaf (.undef), .leaf (.undef), .leaf (.undef), .leaf (.undef), .leaf (.undef), .leaf (.undef), .leaf (.undef), .leaf (.undef), .leaf (.undef), .leaf (.undef), .leaf (.undef), .leaf (.undef), .leaf (.undef), .leaf (.undef), .leaf (.undef), .leaf (.undef), .leaf (.undef), .leaf (.undef), .leaf (.undef), .leaf (.undef), .leaf (.undef), .leaf (.undef), .leaf (.undef), .leaf (.undef), .leaf (.undef), .leaf (.undef), .leaf (.undef), .leaf (.undef), .leaf (.undef), .leaf (.undef), .leaf (.undef), .leaf (.undef), .leaf (.undef), .leaf (.undef), .leaf (.undef), .leaf (.undef), .leaf (.undef), .leaf (.undef), .leaf (.undef), .leaf (.undef), .leaf (.undef), .leaf (.undef), .leaf (.undef), .leaf (.undef), .leaf (.undef), .leaf (.undef), .leaf (.undef), .leaf (.undef), .leaf (.undef), .leaf (.undef), .leaf (.undef), .leaf (.undef), .leaf (.undef)]
abbrev kV:List aH := [.cells [.int .i64, .int .i64, .int .i64, .sl (.int .i64), .sl .raw], .cells [.int .i64, .int .i64, .int .i64, .str, .cJ, .cJ], .cells [.int .i64, .int .i64, .int .i64, .str, .MP .str 3, .MP .json 4], .tok, .tok]
noncomputable def zo (x:bN.av kU) (y:aH.av kV):Nat:=(Int.natAbs x.2.1+Int.natAbs x.2.2.2.2.2.1+Int.natAbs x.2.2.2.2.2.2.2.1+Raw.fu (⟨y.1.1,y.1.2.1,y.1.2.2.1,y.1.2.2.2.1,y.1.2.2.2.2.1⟩:Raw)+Int.natAbs y.2.1.1+Int.natAbs y.2.1.2.1+Int.natAbs y.2.1.2.2.1+List.length y.2.1.2.2.2.1+Int.natAbs y.2.2.1.1+Int.natAbs y.2.2.1.2.1+Int.natAbs y.2.2.1.2.2.1+List.length y.2.2.1.2.2.2.1+List.length y.2.2.1.2.2.2.2.1+List.length y.2.2.1.2.2.2.2.2.1+64)
noncomputable def zp (x:bN.av kU) (y:aH.av kV):kT:=(x.2.1,x.2.2.2.2.2.1,x.2.2.2.2.2.2.2.1,(⟨y.1.1,y.1.2.1,y.1.2.2.1,y.1.2.2.2.1,y.1.2.2.2.2.1⟩:Raw),y.2.1.1,y.2.1.2.1,y.2.1.2.2.1,y.2.1.2.2.2.1,y.2.2.1.1,y.2.2.1.2.1,y.2.2.1.2.2.1,y.2.2.1.2.2.2.1,y.2.2.1.2.2.2.2.1,y.2.2.1.2.2.2.2.2.1)
noncomputable def ya {R:Type} (L:lS R):bN.av kU→aH.av kV→(Ex→St→Option R)→Option R:=fun x y K=>L (zo x y) x.2.1 x.2.2.2.2.2.1 x.2.2.2.2.2.2.2.1 (⟨y.1.1,y.1.2.1,y.1.2.2.1,y.1.2.2.2.1,y.1.2.2.2.2.1⟩:Raw) y.2.1.1 y.2.1.2.1 y.2.1.2.2.1 y.2.1.2.2.2.1 y.2.2.1.1 y.2.2.1.2.1 y.2.2.1.2.2.1 y.2.2.1.2.2.2.1 y.2.2.1.2.2.2.2.1 y.2.2.1.2.2.2.2.2.1 (xZ K)
noncomputable def qR (R:Type) (bA:jT R) (bn:lS R):Nat→Option (Hint × cr R):=fun i=>match i with
  | 11=>some (ub,(gu kU kV (ya bn) qv))
  | 18=>some (ua,(gu kR kS (xY bA) qv))
  | _=>none

theorem G3 {R:Type} (cb:ja R) (dp:mE R) (aJ:dt R) (cz:jW R) (bA:jT R) (bn:lS R) (K:Ex→St→Option R) (rc:St→Option R) (d:kQ):roundOf tt (oc R cb dp aJ cz) (qR R bA bn) 0 ((aP (aK Tryz.f16)).getD 1 .skip) ua (rH d) rc K=zj K (fun d=>rc (rH d)) d:=by kernel_rfl
theorem Fu {R:Type} (K:Ex→St→Option R) (n:Nat) (d:kQ):oj K (n+1) d=zj K (oj K n) d:=by kernel_rfl
theorem Fv {R:Type} (K:Ex→St→Option R) (d:kQ):oj K 0 d=none:=by kernel_rfl
theorem G4 (x:bN.av kR) (y:aH.av kS):(⟨bN.cV kR x,aH.cV kS y⟩:St)=rH (zm x y):=by kernel_rfl
theorem G5 {R:Type} (x:bN.av kR) (y:aH.av kS) (K:Ex→St→Option R):xY (bA) x y K=oj K (zk x y) (zm x y):=by kernel_rfl
theorem JA {R:Type} (aJ:dt R) (other:cr R) (ho:o3 tt (oc R cb dp aJ cz) (qR R bA (bn aJ)) 0 ((aP (aK Tryz.f16)).getD 1 .skip) ua other):o3 tt (oc R cb dp aJ cz) (qR R bA (bn aJ)) 0 ((aP (aK Tryz.f16)).getD 1 .skip) ua (gu kR kS (xY (bA)) other) :=
  gN (A:=oj) ho (kB rH (zj) (oj) (Fv) (G3 cb dp aJ cz bA (bn aJ)) (Fu)) zk zm G4 (G5)

theorem G6 {R:Type} (cb:ja R) (dp:mE R) (aJ:dt R) (cz:jW R) (bA:jT R) (bn:lS R) (K:Ex→St→Option R) (rc:St→Option R) (d:kT):roundOf tt (oc R cb dp aJ cz) (qR R bA bn) 0 ((aP (aK Tryz.f16)).getD 0 .skip) ub (rI d) rc K=zn cb aJ bA K (fun d=>rc (rI d)) d:=by kernel_rfl
theorem Fw {R:Type} (aJ:dt R) (K:Ex→St→Option R) (n:Nat) (d:kT):om aJ K (n+1) d=zn cb aJ bA K (om aJ K n) d:=by kernel_rfl
theorem Fx {R:Type} (aJ:dt R) (K:Ex→St→Option R) (d:kT):om aJ K 0 d=none:=by kernel_rfl
theorem G7 (x:bN.av kU) (y:aH.av kV):(⟨bN.cV kU x,aH.cV kV y⟩:St)=rI (zp x y):=by kernel_rfl
theorem G8 {R:Type} (aJ:dt R) (x:bN.av kU) (y:aH.av kV) (K:Ex→St→Option R):ya (bn aJ) x y K=om aJ K (zo x y) (zp x y):=by kernel_rfl
theorem JB {R:Type} (aJ:dt R) (other:cr R) (ho:o3 tt (oc R cb dp aJ cz) (qR R bA (bn aJ)) 0 ((aP (aK Tryz.f16)).getD 0 .skip) ub other):o3 tt (oc R cb dp aJ cz) (qR R bA (bn aJ)) 0 ((aP (aK Tryz.f16)).getD 0 .skip) ub (gu kU kV (ya (bn aJ)) other) :=
  gN (A:=om aJ) ho (kB rI (zn cb aJ bA) (om aJ) (Fx aJ) (G6 cb dp aJ cz bA (bn aJ)) (Fw aJ)) zo zp G7 (G8 aJ)

noncomputable def od {R:Type} (cb:ja R) (dp:mE R) (cz:jW R) (bn:lS R) (x1:Raw) (x2:Int) (k0:Json→Option R):Option R :=
  cz x1.kind 7 (fun y3=>bif ((IntKind.i64.wrap (1+y3))==4)then (dp x1.aB x1.exp (fun y4=>k0 (⟨(IntKind.i64.wrap (1+y3)),⟨y4.aB,y4.exp⟩,([]:aj),([]:List aj),([]:List Json)⟩:Json)))else (bif ((IntKind.i64.wrap (1+y3))==5)then (cU (decide ((0:Int)≤(min (x1.text.length:Int) 20))&&decide ((min (x1.text.length:Int) 20)≤x1.text.length)) (cU (decide ((0:Int)≤(min (x1.text.length:Int) 20))) (cb ((x1.text.drop 0).take ((min (x1.text.length:Int) 20).toNat - 0)) (fun y5=>k0 (⟨(IntKind.i64.wrap (1+y3)),⟨0,0⟩,y5,([]:List aj),([]:List Json)⟩:Json)))))else (let j71:=fun (z6:Bool)=>bif z6 then (bn (Int.natAbs x2+Int.natAbs (IntKind.i64.wrap (1+y3))+Int.natAbs 0+Raw.fu (⟨x1.kind,x1.aB,x1.exp,x1.text,x1.items⟩:Raw)+Int.natAbs 0+Int.natAbs 0+Int.natAbs 0+List.length ([]:aj)+Int.natAbs (IntKind.i64.wrap (1+y3))+Int.natAbs 0+Int.natAbs 0+List.length ([]:aj)+List.length ([]:List aj)+List.length ([]:List Json)+64) x2 (IntKind.i64.wrap (1+y3)) 0 (⟨x1.kind,x1.aB,x1.exp,x1.text,x1.items⟩:Raw) 0 0 0 ([]:aj) (IntKind.i64.wrap (1+y3)) 0 0 ([]:aj) ([]:List aj) ([]:List Json) (fun y61 y62 y63 y64 y65 y66 y67 y68 y69 y70=>k0 (⟨y65,⟨y66,y67⟩,y68,y69,y70⟩:Json)))else (k0 (⟨(IntKind.i64.wrap (1+y3)),⟨0,0⟩,([]:aj),([]:List aj),([]:List Json)⟩:Json)); bif ((IntKind.i64.wrap (1+y3))==6)then (j71 ((IntKind.i64.wrap (1+y3))==6))else (j71 ((IntKind.i64.wrap (1+y3))==7)))))
noncomputable def Gn {R:Type} (aJ:dt R):dt R:=fun x1 x2 k0=>od cb dp cz (bn aJ) x1 x2 k0
theorem QZ {R:Type} (cb:ja R) (dp:mE R) (aJ:dt R) (cz:jW R) (bA:jT R) (bn:lS R) (x1:Raw) (x2:Int) (k:V→az→Option R):iP tt (oc R cb dp aJ cz) (qR R bA bn) false Tryz.f16 (aK Tryz.f16) [.agg [.int .i64 x1.kind, .int .i64 x1.aB, .int .i64 x1.exp, .sl (.int .i64) x1.text .no, .sl .raw x1.items .no], .int .i64 x2] [] k =
    od cb dp cz bn x1 x2 (fun q0=>k (.agg [.int .i64 q0.kind, .int .i64 q0.num.aB, .int .i64 q0.num.exp, .str q0.text, .sl .str q0.names .no, .sl .json q0.items .no]) []):=by kernel_rfl
theorem Lv (R:Type) (aJ:dt R):∀a∈aP (aK Tryz.f16),cR tt (oc R cb dp aJ cz) (qR R bA (bn aJ)) 0 a:=by
  refine bG 2 (by kernel_rfl) fun i hi => ?_
  match i,hi with
  | 0,_=>exact fC (by kernel_rfl) (JB aJ _ jc)
  | 1,_=>exact fC (by kernel_rfl) (JA aJ _ jc)
  | n+2,hi=>omega
theorem Lw (R:Type) (aJ:dt R) (Dn:ay.Spec.Ok Tryz.prog 16 (aA pA pB (lR aJ) bg)) (other:ay.Spec R) (ho:ay.Spec.Ok Tryz.prog 16 other):ay.Spec.Ok Tryz.prog 16 (aA pA pB (lR (Gn aJ)) other) :=
  bu ho (bj TT mixed (OR R aJ Dn) (keep:=false) rfl rfl rfl rfl 0 (Lv R aJ)) fun (x:bN.av pA) (y:aH.av pB) k=>QZ cb dp aJ cz bA (bn aJ) (⟨x.1.1,x.1.2.1,x.1.2.2.1,x.1.2.2.2.1,x.1.2.2.2.2.1⟩:Raw) x.2.1 k
noncomputable def jU {R:Type}:Nat→dt R
  | 0,_,_,_=>none
  | n+1,lY,lZ,k0'=>Gn (jU n) lY lZ k0'
theorem XF {R:Type} (n:Nat):jU (R:=R) (n+1)=Gn (jU n):=by kernel_rfl
theorem NV (R:Type):∀n,ay.Spec.Ok Tryz.prog 16 (aA pA pB (lR (jU (R:=R) n)) bg) :=
  wB (run:=fun n=>lR (jU (R:=R) n)) (fun x y k=>by kernel_rfl) fun n hyp=>Lw R (jU n) hyp bg (aO _)
noncomputable def iI {R:Type}:dt R:=fun x1 x2 k0=>jU (Raw.depth x1+2) x1 x2 k0
theorem NW (R:Type):lR (R:=R) iI=fun x y k=>lR (jU (Raw.depth (⟨x.1.1,x.1.2.1,x.1.2.2.1,x.1.2.2.2.1,x.1.2.2.2.2.1⟩:Raw)+2)) x y k:=by kernel_rfl
theorem NX (R:Type) (other:ay.Spec R) (ho:ay.Spec.Ok Tryz.prog 16 other):ay.Spec.Ok Tryz.prog 16 (aA pA pB (lR iI) other) :=
  B3 (DI (run:=fun n=>lR (jU (R:=R) n)) (fun x y=>(Raw.depth (⟨x.1.1,x.1.2.1,x.1.2.2.1,x.1.2.2.2.1,x.1.2.2.2.2.1⟩:Raw)+2)) ho (NV R)) (NW R)

end Go.Proofs.YtmlkkgfenfdndaaGreatDoor

set_option maxRecDepth 100000
namespace Go.Proofs.YtmlkkgfenfdndaaGreatDoor
open Go Go.ay Go.Lib

mutual
def Raw.tot:Raw→Nat
  | ⟨_,_,_,_,is⟩=>Raw.totL is+1
def Raw.totL:List Raw→Nat
  | []=>0
  | x::l=>Raw.tot x+Raw.totL l
end
mutual
def Raw.ok:Raw→Prop
  | ⟨k,m,e,t,is⟩=>(D3 k∧D3 m∧D3 e∧∀c∈t,D3 c)∧(t.length≤1048576∧is.length≤1048576)∧Raw.okL is
def Raw.okL:List Raw→Prop
  | []=>True
  | x::l=>Raw.ok x∧Raw.okL l
end
theorem NY {T:Ty}:∀(l:List T.den) (m:Nat),SQ m (l.map T.cells)→(∀(x:T.den) n,NR n (T.cells x)→1≤n)→l.length≤m
  | [],_,_,_=>Nat.zero_le _
  | x::l,_, .cons h t,hh=>by
    have h1:=hh x _ h
    have h2:=NY l _ t hh
    simp only[List.length_cons]
    omega
theorem wt_pos {n:Nat} {v:V} (h:Wt n v):1≤n:=by
  cases h <;> omega
theorem VK:∀(l:List (Ty.den (.int .i64))) (m:Nat),SQ m (l.map (Ty.cells (.int .i64)))→∀c∈(l:List Int),D3 c
  | [],_,_,c,hc=>by cases hc
  | x::l,_, .cons h t,c,hc=>by
    rcases List.mem_cons.1 hc with rfl|hc
    · have h':NR _ [V.int .i64 c]:=h
      cases h' with
      | cons a b=>cases a with|int _ hk=>exact I1.1 hk
    · exact VK l _ t c hc
mutual
theorem wt_raw:∀(x:Raw) (n:Nat),n≤1048576→NR n (Ty.cells .raw x)→Raw.tot x≤n∧Raw.ok x
  | ⟨k,m,e,t,is⟩,n,hn,h=>by
    have hL:=VL is
    have h':NR n [.int .i64 k, .int .i64 m, .int .i64 e, .sl (.int .i64) t .no, .sl .raw is .no]:=h
    cases h' with
    | cons a1 h'=>cases h' with
      | cons a2 h'=>cases h' with
        | cons a3 h'=>cases h' with
          | cons a4 h'=>cases h' with
            | cons a5 h' =>
              cases h'
              cases a1 with|int p1 k1 =>
              cases a2 with|int p2 k2 =>
              cases a3 with|int p3 k3 =>
              cases a4 with|sl p4 w4 =>
              cases a5 with|sl p5 w5 =>
              have hl4:=NY (T := .int .i64) t _ w4 (fun x n h=>by
                have h':NR n [V.int .i64 x]:=h
                cases h' with|cons a b=>have:=wt_pos a; omega)
              have hl5:=NY (T := .raw) is _ w5 (fun x n h=>by
                have h':NR n (.int .i64 x.kind::_):=h
                cases h' with|cons a b=>have:=wt_pos a; omega)
              obtain ⟨g1,g2⟩:=hL _ (by omega) w5
              refine ⟨by simp only[Raw.tot]; omega,⟨I1.1 k1,I1.1 k2,I1.1 k3,VK t _ w4⟩,⟨Nat.le_trans hl4 (by omega),Nat.le_trans hl5 (by omega)⟩,g2⟩
theorem VL:∀(l:List Raw) (n:Nat),n≤1048576→SQ n (l.map (Ty.cells .raw))→Raw.totL l≤n∧Raw.okL l
  | [],_,_,_=>⟨Nat.zero_le _,trivial⟩
  | x::l,_,hn, .cons h t=>by
    obtain ⟨a1,a2⟩:=wt_raw x _ (by omega) h
    obtain ⟨b1,b2⟩:=VL l _ (by omega) t
    exact ⟨by simp only[Raw.totL]; omega,a2,b2⟩
end
theorem Q0:∀ {l:List Raw} {x:Raw},Raw.okL l→x∈l→Raw.ok x
  | y::l,x,h,hx=>by
    rcases List.mem_cons.1 hx with rfl|hx
    · exact h.1
    · exact Q0 h.2 hx
theorem UI {l:List Raw} {y:Raw} (h:y∈l):y.depth≤Raw.B2 l:=by
  induction l with
  | nil=>cases h
  | cons a l ih =>
    simp only[Raw.B2]
    rcases List.mem_cons.1 h with rfl|h
    · exact Nat.le_max_left _ _
    · exact Nat.le_trans (ih h) (Nat.le_max_right _ _)
theorem SR {x y:Raw} (h:y∈x.items):y.depth<x.depth:=by
  have:x.depth=Raw.B2 x.items+1:=by cases x; simp[Raw.depth]
  rw[this]
  exact Nat.lt_succ_of_le (UI h)

theorem NZ:∀(ns seen:List aj) (n:aj),vm seen (ns ++ [n])=(vm seen ns&&((!(seen.contains n||ns.contains n))&&gO n))
  | [],seen,n=>by simp[vm]
  | m::ns,seen,n=>by
    simp only[List.cons_append,vm,NZ ns (m::seen) n,List.contains_cons]
    cases seen.contains m <;> cases gO m <;> cases vm (m::seen) ns <;> cases n==m <;> cases seen.contains n <;> rfl

theorem LS (t:aj):(Lq t).length≤6*t.length+2:=by
  unfold Lq
  have:∀l:aj,(l.flatMap qb).length≤6*l.length:=by
    intro l
    induction l with
    | nil=>simp
    | cons b l ih =>
      have:=qb_len b
      simp only[List.flatMap_cons,List.length_append,List.length_cons]
      omega
  have:=this t
  simp only[List.length_cons,List.length_append,List.length_nil]
  omega

theorem fit_seen {R:Type} (d q i:Int) (y:aj) (raw:Raw) (a1 a2 a3:Int) (a4:aj) (b1 b2 b3:Int) (b4:aj) (ns:List aj) (hl:ns.length≤1000000) (is:List Json) (ri:Raw) (e0):∀(F j:Nat) (b:Bool),j≤ns.length→ns.length - j<F →
    bA (R:=R) F d q i y b (j:Int) raw a1 a2 a3 a4 b1 b2 b3 b4 ns is ri e0=e0 d q i y (b||(ns.drop j).contains y) raw a1 a2 a3 a4 b1 b2 b3 b4 ns is ri:=by
  intro F
  induction F with
  | zero=>intro j b _ h; omega
  | succ F ih =>
    intro j b hj hF
    show tZ (fun lY lZ mF tQ EB EC Li Lj Lk Ll AB Gi NT NU x14' x15' x16' x17'=>bA F lY lZ mF tQ EB EC Li Lj Lk Ll AB Gi NT NU x14' x15' x16' x17' e0) d q i y b (j:Int) raw a1 a2 a3 a4 b1 b2 b3 b4 ns is ri e0=_
    unfold tZ
    simp only[Raw.eta]
    by_cases h:j<ns.length
    · have h1:decide ((j:Int)<(ns.length:Int))=true:=by simp; omega
      have h2:(decide ((0:Int)≤(j:Int))&&true)=true:=by simp
      have hw:IntKind.i64.wrap ((j:Int)+1)=((j+1:Nat):Int):=by rw[dB (by omega) (by omega)]; omega
      have hg:ns.getD (j:Int).toNat (Ty.cn .str)=ns[j]:=getD_at h _
      rw[h1,cond_true,aS h2,hg,hw,List.drop_eq_getElem_cons h,List.contains_cons]
      cases b with
      | true =>
        rw[cond_true,ih (j+1) true (by omega) (by omega)]
        rfl
      | false =>
        rw[cond_false,ih (j+1) _ (by omega) (by omega),Bool.false_or]
        have:(ns[j]==y)=(y==ns[j]):=by rw[Bool.eq_iff_iff,beq_iff_eq,beq_iff_eq]; exact eq_comm
        rw[this]
    · have h1:decide ((j:Int)<(ns.length:Int))=false:=by simp; omega
      rw[h1,cond_false,List.drop_eq_nil_of_le (by omega),List.contains_nil,Bool.or_false]

structure FitV (R:Type) (v:Json) (d:Int) (n:Nat):Prop where
  right:fU v d=true
  len:H7 v=true
  size:(eT v).length+5000≤10000*n

theorem Ia:∀(l:List Json) (x:Json) (b:Bool),(mf (l ++ [x]) b).length≤(mf l b).length+1+(eT x).length
  | [],x,b=>by cases b <;> simp[mf] <;> omega
  | y::l,x,b=>by
    have:=Ia l x false
    simp only[List.cons_append,mf,List.length_append]
    omega
theorem Ib:∀(ns:List aj) (l:List Json) (n:aj) (x:Json) (b:Bool),ns.length=l.length→(lG (ns ++ [n]) (l ++ [x]) b).length≤(lG ns l b).length+2+(Lq n).length+(eT x).length
  | [], [],n,x,b,_=>by cases b <;> simp[lG] <;> omega
  | m::ns,y::l,n,x,b,h=>by
    have:=Ib ns l n x false (by simpa using h)
    simp only[List.cons_append,lG,List.headD_cons,List.tail_cons,List.length_append,List.length_cons]
    omega
  | [],_::_,_,_,_,h=>by cases h
  | _::_, [],_,_,_,h=>by cases h
theorem Cj:∀(l:List Json) (x:Json) (d:Int),fX (l ++ [x]) d=(fX l d&&fU x d)
  | [],x,d=>by simp[fX]
  | y::l,x,d=>by simp only[List.cons_append,fX,Cj l x d,Bool.and_assoc]
theorem N0:∀(l:List Json) (x:Json),Jw (l ++ [x])=(Jw l&&H7 x)
  | [],x=>by simp[Jw]
  | y::l,x=>by simp only[List.cons_append,Jw,N0 l x,Bool.and_assoc]
theorem totL_take (l:List Raw) (i:Nat) (h:i<l.length):Raw.totL (l.take (i+1))=Raw.totL (l.take i)+Raw.tot l[i]:=by
  induction l generalizing i with
  | nil=>cases h
  | cons y l ih =>
    cases i with
    | zero=>simp[Raw.totL]
    | succ i =>
      have:=ih i (by simpa using h)
      simp only[List.take_succ_cons,Raw.totL,List.getElem_cons_succ]
      omega
theorem totL_take_le (l:List Raw) (i:Nat):Raw.totL (l.take i)≤Raw.totL l:=by
  induction l generalizing i with
  | nil=>simp
  | cons y l ih =>
    cases i with
    | zero=>simp[Raw.totL]
    | succ i =>
      have:=ih i
      simp only[List.take_succ_cons,Raw.totL]
      omega

structure XG (q:Int) (d:Int) (ns:List aj) (is:List Json) (n:Nat):Prop where
  right:fX is (d+1)=true
  len:Jw is=true
  count:is.length≤12
  names:(q=7∧ns.length=is.length∧vm [] ns=true∧(∀t∈ns,t.length≤1000)∧(lG ns is true).length≤10000*n)∨(q=6∧ns = []∧(mf is true).length≤10000*n)

theorem XG.fit {R:Type} {q d:Int} (hd:d≤16) {ns:List aj} {is:List Json} {n m:Nat} (h:XG q d ns is n) (hn:n≤m):FitV R ⟨q,⟨0,0⟩, [],ns,is⟩ d (m+1):=by
  obtain ⟨h1,h2,h3,h4⟩:=h
  rcases h4 with ⟨rfl,g1,g2,g3,g4⟩|⟨rfl,rfl,g4⟩
  · refine ⟨gw.2 (.obj ns is d hd g1 g2 h1),vn.2 ⟨by simp only; omega,by simp only; omega,h2,by simp,fun t ht=>by have:=g3 t ht; omega⟩,?_⟩
    show (123::(lG ns is true ++ [125]):aj).length+5000≤_
    simp only[List.length_cons,List.length_append,List.length_nil]
    omega
  · refine ⟨gw.2 (.arr is d hd h1),vn.2 ⟨by simp,by simp only; omega,h2,by simp,by simp⟩,?_⟩
    show (91::(mf is true ++ [93]):aj).length+5000≤_
    simp only[List.length_cons,List.length_append,List.length_nil]
    omega
end Go.Proofs.YtmlkkgfenfdndaaGreatDoor

/-
  Functions of the program as pure Lean functions, and the ties; printed by wip/tools/emit.py.
-/
set_option maxRecDepth 100000
namespace Go.Proofs.YtmlkkgfenfdndaaGreatDoor
open Go Go.ay

end Go.Proofs.YtmlkkgfenfdndaaGreatDoor

set_option maxRecDepth 100000
namespace Go.Proofs.YtmlkkgfenfdndaaGreatDoor
open Go Go.ay Go.Lib

theorem awake04 {R:Type} (k:Bool→Option R):fV k=k true:=by kernel_rfl

theorem pick04 {R:Type} (c n:Int) (hc:D3 c) (h0:0<n) (hn:n≤9223372036854775807):∃r:Int,0≤r∧r<n∧∀k:Int→Option R,cz c n k=k r:=M3 c n hc h0 hn


theorem UJ {R:Type} (jB:dt R) (d:Int) (hd:1≤d∧d≤16) (q:Int) (hq:q=6∨q=7) (raw:Raw) (hl:raw.items.length≤1048576) (sv:Raw.okL raw.items) (hf:d<16→∀x∈raw.items,∃v,FitV R v (d+1) (Raw.tot x)∧∀k:Json→Option R,jB x (d+1) k=k v) :
    ∀(F i:Nat) (ns:List aj) (is:List Json),i≤raw.items.length→raw.items.length - i<F→is.length≤i→XG q d ns is (Raw.totL (raw.items.take i)) →
    ∃LQ LR,XG q d LQ LR (Raw.totL raw.items)∧∀e0,bn jB F d q (i:Int) raw 0 0 0 [] q 0 0 [] ns is e0=e0 0 0 0 [] q 0 0 [] LQ LR:=by
  intro F
  induction F with
  | zero=>intro i ns is _ h; omega
  | succ F ih =>
    intro i ns is hi hF hc hh
    have e1:∀e0,bn jB (F+1) d q (i:Int) raw 0 0 0 [] q 0 0 [] ns is e0=mB cb jB bA (fun lY lZ mF tQ EB EC Li Lj Lk Ll AB Gi NT NU=>bn jB F lY lZ mF tQ EB EC Li Lj Lk Ll AB Gi NT NU e0) d q (i:Int) raw 0 0 0 [] q 0 0 [] ns is e0:=fun e0=>rfl
    have stop:(∀e0,bn jB (F+1) d q (i:Int) raw 0 0 0 [] q 0 0 [] ns is e0=e0 0 0 0 [] q 0 0 [] ns is)→∃LQ LR,XG q d LQ LR (Raw.totL raw.items)∧∀e0,bn jB (F+1) d q (i:Int) raw 0 0 0 [] q 0 0 [] ns is e0=e0 0 0 0 [] q 0 0 [] LQ LR:=fun h=>by
      refine ⟨ns,is,⟨hh.right,hh.len,hh.count,?_⟩,h⟩
      have hle:=totL_take_le raw.items i
      rcases hh.names with ⟨g1,g2,g3,g4,g5⟩|⟨g1,g2,g3⟩
      · exact .inl ⟨g1,g2,g3,g4,by omega⟩
      · exact .inr ⟨g1,g2,by omega⟩
    by_cases h:i<raw.items.length
    rotate_left
    · refine stop fun e0 => ?_
      rw[e1]
      unfold mB
      have h1:decide ((i:Int)<(raw.items.length:Int))=false:=by simp; omega
      rw[h1]
      rfl
    have h1:decide ((i:Int)<(raw.items.length:Int))=true:=by simp; omega
    by_cases h12:i<12
    rotate_left
    · refine stop fun e0 => ?_
      rw[e1]
      unfold mB
      have h2:decide ((i:Int)<12)=false:=by simp; omega
      rw[h1,h2]
      rfl
    have h2:decide ((i:Int)<12)=true:=by simp; omega
    by_cases SI:d<16
    rotate_left
    · refine stop fun e0 => ?_
      rw[e1]
      unfold mB
      have h3:decide (d<16)=false:=by simp; omega
      rw[h1,h2,h3]
      rfl
    have h3:decide (d<16)=true:=by simpa using SI
    have hw:IntKind.i64.wrap ((i:Int)+1)=((i+1:Nat):Int):=by rw[dB (by omega) (by omega)]; omega
    have hwd:IntKind.i64.wrap (d+1)=d+1:=dB (by omega) (by omega)
    have hg:raw.items.getD (i:Int).toNat (Ty.cn .raw)=raw.items[i]:=getD_at h _
    have hxok:=Q0 sv (List.getElem_mem h)
    obtain ⟨v,hv,mZ⟩:=hf SI raw.items[i] (List.getElem_mem h)
    generalize hx:raw.items[i]=x at *
    have Qc:∀c∈x.text,D3 c:=by
      obtain ⟨k1,m1,U9,t1,is1⟩:=x
      exact hxok.1.2.2.2
    have hxl:x.text.length≤1048576:=by
      obtain ⟨k1,m1,U9,t1,is1⟩:=x
      exact hxok.2.1.1
    have Ya:min (x.text.length:Int) 8=((min x.text.length 8:Nat):Int):=by omega
    obtain ⟨rs,r1,r2,r3,r4⟩:=Sf (R:=R) (x.text.take (min x.text.length 8)) (fun c hc=>Qc c (List.mem_of_mem_take hc))
    have Cu:gO (cV rs)=true:=BS.2 ⟨rs,r1,rfl⟩
    have htot:Raw.totL (raw.items.take (i+1))=Raw.totL (raw.items.take i)+Raw.tot x:=by rw[totL_take _ _ h,hx]
    have hqt:=LS (cV rs)
    have e2:∀e0,bn jB (F+1) d q (i:Int) raw 0 0 0 [] q 0 0 [] ns is e0 =
        (bif (q==7)then (bA (Int.natAbs d+Int.natAbs q+Int.natAbs (i:Int)+List.length (cV rs)+Int.natAbs 0+Raw.fu raw+Int.natAbs 0+Int.natAbs 0+Int.natAbs 0+List.length ([]:aj)+Int.natAbs q+Int.natAbs 0+Int.natAbs 0+List.length ([]:aj)+List.length ns+List.length is+Raw.fu x+64) d q (i:Int) (cV rs) false 0 raw 0 0 0 [] q 0 0 [] ns is x (fun Pr Sk Sl XX Xd OJ X0 Z1 Z2 Z3 X1 Z4 Z5 y55 Xe Xf Xg=>bif Xd then (bn jB F Pr Sk (IntKind.i64.wrap (Sl+1)) OJ X0 Z1 Z2 Z3 X1 Z4 Z5 y55 Xe Xf e0)else (cU (decide ((Xe.length+1)*16≤140737488355328)) (jB Xg (IntKind.i64.wrap (Pr+1)) (fun Uo=>cU (decide ((Xf.length+1)*88≤140737488355328)) (bn jB F Pr Sk (IntKind.i64.wrap (Sl+1)) OJ X0 Z1 Z2 Z3 X1 Z4 Z5 y55 (Xe++([XX]:List aj)) (Xf++([Uo]:List Json)) e0))))))
        else (jB x (IntKind.i64.wrap (d+1)) (fun Vr=>cU (decide ((is.length+1)*88≤140737488355328)) (bn jB F d q (IntKind.i64.wrap ((i:Int)+1)) raw 0 0 0 [] q 0 0 [] ns (is++([Vr]:List Json)) e0)))):=fun e0=>by
      rw[e1]
      unfold mB
      simp only[Raw.eta,Json.eta]
      rw[h1,cond_true,h2,cond_true,h3,cond_true,aS (by simp),hg,Ya,aS (by rw[bq (by omega),bq (by omega)]; rfl),aS (bq (by omega)),Int.toNat_natCast,List.drop_zero,Nat.sub_zero,r4]
    have c1:decide ((ns.length+1)*16≤140737488355328)=true:=by
      rw[decide_eq_true_eq]
      have:=hh.count
      rcases hh.names with ⟨_,g2,_⟩|⟨_,g2,_⟩
      · omega
      · rw[g2]; simp
    have c2:decide ((is.length+1)*88≤140737488355328)=true:=by
      rw[decide_eq_true_eq]
      have:=hh.count
      omega
    have qL:=hv.size
    rcases hq with rfl|rfl
    · -- an array
      rcases hh.names with ⟨g1,_⟩|⟨_,g2,g3⟩
      · cases g1
      have hpe:=Ia is v true
      obtain ⟨LQ,LR,hh',SS⟩:=ih (i+1) ns (is ++ [v]) (by omega) (by omega) (by simp; omega) ⟨by rw[Cj,hh.right,hv.right]; rfl,by rw[N0,hh.len,hv.len]; rfl,by simp; omega, .inr ⟨rfl,g2,by rw[htot]; omega⟩⟩
      refine ⟨LQ,LR,hh',fun e0 => ?_⟩
      rw[e2]
      show jB x (IntKind.i64.wrap (d+1)) _=_
      rw[hwd,mZ,aS c2,hw,SS]
    · -- an object
      rcases hh.names with ⟨_,g2,g3,g4,g5⟩|⟨g1,_⟩
      rotate_left
      · cases g1
      have hsl:=fun e=>fit_seen (R:=R) d 7 (i:Int) (cV rs) raw 0 0 0 [] 7 0 0 [] ns (by have:=hh.count; omega) is x e (Int.natAbs d+Int.natAbs 7+Int.natAbs (i:Int)+List.length (cV rs)+Int.natAbs 0+Raw.fu raw+Int.natAbs 0+Int.natAbs 0+Int.natAbs 0+List.length ([]:aj)+Int.natAbs 7+Int.natAbs 0+Int.natAbs 0+List.length ([]:aj)+List.length ns+List.length is+Raw.fu x+64) 0 false (by omega) (by omega)
      cases hcn:ns.contains (cV rs)with
      | true =>
        obtain ⟨LQ,LR,hh',SS⟩:=ih (i+1) ns is (by omega) (by omega) (by omega) ⟨hh.right,hh.len,hh.count, .inl ⟨rfl,g2,g3,g4,by rw[htot]; omega⟩⟩
        refine ⟨LQ,LR,hh',fun e0 => ?_⟩
        rw[e2]
        refine (hsl _).trans ?_
        rw[List.drop_zero,hcn]
        show bn jB F d 7 (IntKind.i64.wrap ((i:Int)+1)) raw 0 0 0 [] 7 0 0 [] ns is e0=_
        rw[hw,SS]
      | false =>
        have hpe:=Ib ns is (cV rs) v true g2
        obtain ⟨LQ,LR,hh',SS⟩:=ih (i+1) (ns ++ [cV rs]) (is ++ [v]) (by omega) (by omega) (by simp; omega) ⟨by rw[Cj,hh.right,hv.right]; rfl,by rw[N0,hh.len,hv.len]; rfl,by simp; omega,
          .inl ⟨rfl,by simp[g2],by rw[NZ,g3,hcn,Cu]; rfl,fun t ht=>by
            rcases List.mem_append.1 ht with ht|ht
            · exact g4 t ht
            · simp only[List.mem_singleton]at ht
              rw[ht]; omega,by rw[htot]; omega⟩⟩
        refine ⟨LQ,LR,hh',fun e0 => ?_⟩
        rw[e2]
        refine (hsl _).trans ?_
        rw[List.drop_zero,hcn]
        show cU (decide ((ns.length+1)*16≤140737488355328)) (jB x (IntKind.i64.wrap (d+1)) _)=_
        rw[aS c1,hwd,mZ,aS c2,hw,SS]

theorem SU {d:iZ} (h:Fm d):(za d).length≤60:=by
  have e:za d=Od d:=by unfold za; rw[GG.2 h]; rfl
  rw[e]
  exact (Pz h).2.2

theorem fit_N {R:Type}:∀(n:Nat) (x:Raw) (d:Int),Raw.ok x→x.depth<n→1≤d→d≤16→∃v,FitV R v d (Raw.tot x)∧∀k:Json→Option R,jU n x d k=k v:=by
  intro n
  induction n with
  | zero=>intro x d _ h; omega
  | succ n ih =>
    intro x d hx hn hd1 Yg
    have e0:∀k:Json→Option R,jU (n+1) x d k=od cb dp cz (bn (jU n)) x d k:=fun k=>rfl
    have hdep:∀z∈x.items,z.depth<n:=fun z hz=>by have:=SR hz; omega
    obtain ⟨kd,mt,ex,tx,is⟩:=x
    obtain ⟨⟨i1,i2,i3,i4⟩,⟨l1,l2⟩,i5⟩:=hx
    simp only at hdep
    have htot:Raw.tot ⟨kd,mt,ex,tx,is⟩=Raw.totL is+1:=rfl
    obtain ⟨y,y0,y1,hy⟩:=pick04 (R:=R) kd 7 i1 (by omega) (by omega)
    have hw:IntKind.i64.wrap (1+y)=1+y:=dB (by omega) (by omega)
    have hq:y=0∨y=1∨y=2∨y=3∨y=4∨y=5∨y=6:=by omega
    have hlp:∀q:Int,q=6∨q=7→∃LQ LR,XG q d LQ LR (Raw.totL is)∧∀e0,bn (R:=R) (jU n) (Int.natAbs d+Int.natAbs q+Int.natAbs 0+Raw.fu ⟨kd,mt,ex,tx,is⟩+Int.natAbs 0+Int.natAbs 0+Int.natAbs 0+List.length ([]:aj)+Int.natAbs q+Int.natAbs 0+Int.natAbs 0+List.length ([]:aj)+List.length ([]:List aj)+List.length ([]:List Json)+64) d q ((0:Nat):Int) ⟨kd,mt,ex,tx,is⟩ 0 0 0 [] q 0 0 [] [] [] e0=e0 0 0 0 [] q 0 0 [] LQ LR:=fun q hq=>by
      refine UJ (jU n) d ⟨hd1,Yg⟩ q hq ⟨kd,mt,ex,tx,is⟩ l2 i5 (fun SI z hz=>ih z (d+1) (Q0 i5 hz) (hdep z hz) (by omega) (by omega)) _ 0 [] [] (by omega) (by simp only[Raw.fu]; omega) (by simp) ⟨rfl,rfl,by simp,?_⟩
      rcases hq with rfl|rfl
      · exact .inr ⟨rfl,rfl,by simp[mf]⟩
      · exact .inl ⟨rfl,rfl,rfl,by simp,by simp[lG]⟩
    have Lu:∀q:Int,q=1∨q=2∨q=3→FitV R ⟨q,⟨0,0⟩, [], [], []⟩ d (Raw.totL is+1):=fun q hq=>by
      refine ⟨gw.2 (.name q d Yg hq),rfl,?_⟩
      rcases hq with rfl|rfl|rfl
      · show pq.length+5000≤_
        have:pq.length=4:=rfl
        omega
      · show lF.length+5000≤_
        have:lF.length=5:=rfl
        omega
      · show sL.length+5000≤_
        have:sL.length=4:=rfl
        omega
    rw[htot]
    rcases hq with rfl|rfl|rfl|rfl|rfl|rfl|rfl
    · refine ⟨_,Lu 1 (by omega),fun k => ?_⟩
      rw[e0]
      unfold od
      rw[hy]
      rfl
    · refine ⟨_,Lu 2 (by omega),fun k => ?_⟩
      rw[e0]
      unfold od
      rw[hy]
      rfl
    · refine ⟨_,Lu 3 (by omega),fun k => ?_⟩
      rw[e0]
      unfold od
      rw[hy]
      rfl
    · obtain ⟨dc,hdc,mZ⟩:=fit_ok (R:=R) mt ex i2 i3
      refine ⟨⟨4,dc, [], [], []⟩,⟨gw.2 (.num dc d Yg hdc),rfl,?_⟩,fun k => ?_⟩
      · show (za dc).length+5000≤_
        have:=SU hdc
        omega
      · rw[e0]
        unfold od
        rw[hy]
        show dp mt ex _=_
        rw[mZ]
        rfl
    · have Ya:min (tx.length:Int) 20=((min tx.length 20:Nat):Int):=by omega
      obtain ⟨rs,r1,r2,r3,r4⟩:=Sf (R:=R) (tx.take (min tx.length 20)) (fun c hc=>i4 c (List.mem_of_mem_take hc))
      have hqt:=LS (cV rs)
      refine ⟨⟨5,⟨0,0⟩,cV rs, [], []⟩,⟨gw.2 (.text _ d Yg (BS.2 ⟨rs,r1,rfl⟩)),vn.2 ⟨by simp,by simp,rfl,by simp only; omega,by simp⟩,?_⟩,fun k => ?_⟩
      · show (Lq (cV rs)).length+5000≤_
        omega
      · rw[e0]
        unfold od
        rw[hy]
        show cU (decide ((0:Int)≤(min (tx.length:Int) 20))&&decide ((min (tx.length:Int) 20)≤(tx.length:Int))) (cU (decide ((0:Int)≤(min (tx.length:Int) 20))) (cb ((tx.drop 0).take ((min (tx.length:Int) 20).toNat - 0)) _))=_
        rw[Ya,aS (by rw[bq (by omega),bq (by omega)]; rfl),aS (bq (by omega)),Int.toNat_natCast,List.drop_zero,Nat.sub_zero,r4]
        rfl
    · obtain ⟨LQ,LR,hh,mZ⟩:=hlp 6 (.inl rfl)
      refine ⟨_,hh.fit Yg (Nat.le_refl _),fun k => ?_⟩
      rw[e0]
      unfold od
      rw[hy]
      exact mZ _
    · obtain ⟨LQ,LR,hh,mZ⟩:=hlp 7 (.inr rfl)
      refine ⟨_,hh.fit Yg (Nat.le_refl _),fun k => ?_⟩
      rw[e0]
      unfold od
      rw[hy]
      exact mZ _

theorem jfit {R:Type} (x:Raw) (hx:Raw.ok x) (d:Int) (h1:1≤d) (h2:d≤16):∃v,FitV R v d (Raw.tot x)∧∀k:Json→Option R,iI x d k=k v:=fit_N (x.depth+2) x d hx (by omega) h1 h2

theorem eqs_loop {R:Type} (a b:List aj) (hl:a.length=b.length) (ha:a.length≤1099511627776) (k:Bool→Option R):∀(F i:Nat),i≤a.length→a.length - i<F →
    aT F a b (a.length:Int) (i:Int) (k true) k=k (decide (a.drop i=b.drop i)):=by
  intro F
  induction F with
  | zero=>intro i _ h; omega
  | succ F ih =>
    intro i hi hF
    show iN (fun x0 x1 x2 x3=>aT F x0 x1 x2 x3 _ _) a b (a.length:Int) (i:Int) _ _=_
    unfold iN
    by_cases h:i<a.length
    · have hb:i<b.length:=by omega
      have h1:decide ((i:Int)<(a.length:Int))=true:=by simp; omega
      have h2:(decide ((0:Int)≤(i:Int))&&true)=true:=by simp
      have h3:(decide ((0:Int)≤(i:Int))&&decide ((i:Int)<(b.length:Int)))=true:=by simp; omega
      have hw:IntKind.i64.wrap ((i:Int)+1)=((i+1:Nat):Int):=by rw[dB (by omega) (by omega)]; omega
      have hg:a.getD (i:Int).toNat (Ty.cn .str)=a[i]:=getD_at h _
      have hg':b.getD (i:Int).toNat (Ty.cn .str)=b[i]:=getD_at hb _
      rw[h1,cond_true,aS h2,aS h3,hg,hg',hw,List.drop_eq_getElem_cons h,List.drop_eq_getElem_cons hb]
      by_cases hq:a[i]=b[i]
      · have e:(a[i]==b[i])=true:=by simpa using hq
        rw[e,Bool.not_true,cond_false]
        simp only[List.cons.injEq,hq,true_and]
        exact ih (i+1) (by omega) (by omega)
      · have e:(a[i]==b[i])=false:=by simpa using hq
        rw[e,Bool.not_false,cond_true]
        have km:¬(a[i]::a.drop (i+1)=b[i]::b.drop (i+1)):=fun h=>hq (List.cons.inj h).1
        rw[decide_eq_false km]
    · have h1:decide ((i:Int)<(a.length:Int))=false:=by simp; omega
      rw[h1,cond_false,List.drop_eq_nil_of_le (by omega),List.drop_eq_nil_of_le (by omega)]
      simp
theorem XH {R:Type} (a b:List aj) (ha:a.length≤1099511627776) (k:Bool→Option R):cd a b k=k (decide (a=b)):=by
  have e:cd a b k=bif ((a.length:Int) != (b.length:Int))then (k false)else (aT (List.length a+List.length b+Int.natAbs (a.length:Int)+Int.natAbs 0+64) a b (a.length:Int) 0 (k true) (fun y7=>k y7)):=rfl
  rw[e]
  by_cases hl:a.length=b.length
  · have h1:((a.length:Int) != (b.length:Int))=false:=by rw[hl]; simp
    have:=eqs_loop a b hl ha k (List.length a+List.length b+Int.natAbs (a.length:Int)+Int.natAbs 0+64) 0 (by omega) (by omega)
    rw[h1,cond_false]
    rw[List.drop_zero,List.drop_zero]at this
    exact this
  · have h1:((a.length:Int) != (b.length:Int))=true:=by simp; omega
    have:a≠b:=fun e=>hl (by rw[e])
    rw[h1,cond_true]
    simp[this]

theorem eqj_loop {R:Type} (f:cw R) (a b:List Json) (hl:a.length=b.length) (ha:a.length≤1099511627776) (hf:∀x∈a,∀y∈b,∃r:Bool,(r=true↔x=y)∧∀k,f x y k=k r):∀(F i:Nat),i≤a.length→a.length - i<F →
    ∃r:Bool,(r=true↔a.drop i=b.drop i)∧∀k:Bool→Option R,aw f F b a (a.length:Int) (i:Int) (k true) k=k r:=by
  intro F
  induction F with
  | zero=>intro i _ h; omega
  | succ F ih =>
    intro i hi hF
    by_cases h:i<a.length
    · have hb:i<b.length:=by omega
      have h1:decide ((i:Int)<(a.length:Int))=true:=by simp; omega
      have h2:(decide ((0:Int)≤(i:Int))&&true)=true:=by simp
      have h3:(decide ((0:Int)≤(i:Int))&&decide ((i:Int)<(b.length:Int)))=true:=by simp; omega
      have hw:IntKind.i64.wrap ((i:Int)+1)=((i+1:Nat):Int):=by rw[dB (by omega) (by omega)]; omega
      have hg:a.getD (i:Int).toNat (Ty.cn .json)=a[i]:=getD_at h _
      have hg':b.getD (i:Int).toNat (Ty.cn .json)=b[i]:=getD_at hb _
      obtain ⟨r,hr,hk⟩:=hf a[i] (List.getElem_mem h) b[i] (List.getElem_mem hb)
      obtain ⟨r2,hr2,GN⟩:=ih (i+1) (by omega) (by omega)
      refine ⟨r&&r2,?_,fun k => ?_⟩
      · rw[List.drop_eq_getElem_cons h,List.drop_eq_getElem_cons hb]
        simp only[Bool.and_eq_true,hr,hr2,List.cons.injEq]
      · show da f (fun x0 x1 x2 x3=>aw f F x0 x1 x2 x3 (k true) k) b a (a.length:Int) (i:Int) (k true) k=_
        unfold da
        simp only[Json.eta]
        rw[h1,cond_true,aS h2,aS h3,hg,hg',hk,hw,GN]
        cases r <;> rfl
    · refine ⟨true,?_,fun k => ?_⟩
      · rw[List.drop_eq_nil_of_le (by omega),List.drop_eq_nil_of_le (by omega)]
        simp
      · show da f (fun x0 x1 x2 x3=>aw f F x0 x1 x2 x3 (k true) k) b a (a.length:Int) (i:Int) (k true) k=_
        unfold da
        have h1:decide ((i:Int)<(a.length:Int))=false:=by simp; omega
        rw[h1]
        rfl
theorem XI {R:Type} (f:cw R) (a b:List Json) (ha:a.length≤1099511627776) (hf:∀x∈a,∀y∈b,∃r:Bool,(r=true↔x=y)∧∀k,f x y k=k r) :
    ∃r:Bool,(r=true↔a=b)∧∀k:Bool→Option R,bh f a b k=k r:=by
  have e:∀k,bh f a b k=bif ((a.length:Int) != (b.length:Int))then (k false)else (aw f (List.length b+List.length a+Int.natAbs (a.length:Int)+Int.natAbs 0+64) b a (a.length:Int) 0 (k true) (fun y8=>k y8)):=fun k=>rfl
  by_cases hl:a.length=b.length
  · have h1:((a.length:Int) != (b.length:Int))=false:=by rw[hl]; simp
    obtain ⟨r,hr,hk⟩:=eqj_loop f a b hl ha hf (List.length b+List.length a+Int.natAbs (a.length:Int)+Int.natAbs 0+64) 0 (by omega) (by omega)
    rw[List.drop_zero,List.drop_zero]at hr
    refine ⟨r,hr,fun k => ?_⟩
    rw[e,h1,cond_false]
    exact hk k
  · have h1:((a.length:Int) != (b.length:Int))=true:=by simp; omega
    refine ⟨false,?_,fun k => ?_⟩
    · constructor
      · intro h; cases h
      · rintro rfl; exact (hl rfl).elim
    · rw[e,h1,cond_true]

theorem jsame_N {R:Type}:∀(n:Nat) (v w:Json),H7 v=true→v.depth<n→∃r:Bool,(r=true↔v=w)∧∀k:Bool→Option R,kP n v w k=k r:=by
  intro n
  induction n with
  | zero=>intro v w _ h; omega
  | succ n ih =>
    intro v w hl hd
    obtain ⟨Ih,KT,Wv,_⟩:=vn.1 hl
    obtain ⟨r,hr,hk⟩:=XI (R:=R) (kP n) v.items w.items KT fun x hx y _=>ih x y (Gg Wv hx) (by have:=Gh hx; omega)
    have e0:∀k:Bool→Option R,kP (n+1) v w k=C3 (bh (kP n)) cd v w k:=fun k=>rfl
    obtain ⟨k1,⟨m1,x1⟩,t1,ns1,is1⟩:=v
    obtain ⟨k2,⟨m2,x2⟩,t2,ns2,is2⟩:=w
    refine ⟨(k1==k2)&&((m1==m2&&(x1==x2&&true))&&((t1==t2)&&(decide (ns1=ns2)&&r))),?_,fun k => ?_⟩
    · simp only[Bool.and_eq_true,beq_iff_eq,decide_eq_true_eq,hr,Json.mk.injEq,iZ.mk.injEq]
      constructor
      · rintro ⟨h1,⟨h2,h3,_⟩,h4,h5,h6⟩; exact ⟨h1,⟨h2,h3⟩,h4,h5,h6⟩
      · rintro ⟨h1,⟨h2,h3⟩,h4,h5,h6⟩; exact ⟨h1,⟨h2,h3,trivial⟩,h4,h5,h6⟩
    · rw[e0]
      unfold C3
      simp only
      rw[XH ns1 ns2 Ih]
      simp only[hk]
      cases k1==k2 <;> cases (m1==m2&&(x1==x2&&true)) <;> cases t1==t2 <;> cases decide (ns1=ns2) <;> rfl

theorem jsame {R:Type} (v w:Json) (hl:H7 v=true):∃r:Bool,(r=true↔v=w)∧∀k:Bool→Option R,di v w k=k r:=jsame_N (v.depth+2) v w hl (by omega)
end Go.Proofs.YtmlkkgfenfdndaaGreatDoor

/-
  Functions of the program as pure Lean functions, and the ties; printed by wip/tools/emit.py.
-/
set_option maxRecDepth 100000
namespace Go.Proofs.YtmlkkgfenfdndaaGreatDoor
open Go Go.ay

end Go.Proofs.YtmlkkgfenfdndaaGreatDoor

/-
  Functions of the program as pure Lean functions, and the ties; printed by wip/tools/emit.py.
-/
set_option maxRecDepth 100000
namespace Go.Proofs.YtmlkkgfenfdndaaGreatDoor
open Go Go.ay

end Go.Proofs.YtmlkkgfenfdndaaGreatDoor

/-
  Functions of the program as pure Lean functions, and the ties; printed by wip/tools/emit.py.
-/
set_option maxRecDepth 100000
namespace Go.Proofs.YtmlkkgfenfdndaaGreatDoor
open Go Go.ay

end Go.Proofs.YtmlkkgfenfdndaaGreatDoor

/-
  Functions of the program as pure Lean functions, and the ties; printed by wip/tools/emit.py.
-/
set_option maxRecDepth 100000
namespace Go.Proofs.YtmlkkgfenfdndaaGreatDoor
open Go Go.ay

/-! ### humpyard/humpyardlaw04.JsonAgain -/
abbrev Ck (R:Type):Type:=aj→Raw→Int→aj→(Bool→Option R)→Option R
abbrev sP:List bN := [.leaf (.str), .agg [.int .i64, .int .i64, .int .i64, .sl (.int .i64), .sl .raw], .leaf (.int .i64), .leaf (.str)]
abbrev sQ:List aH := []
noncomputable def Cl {R:Type} (fn:Ck R):bN.av sP→aH.av sQ→(V→az→Option R)→Option R:=fun x y k=>fn x.1 (⟨x.2.1.1,x.2.1.2.1,x.2.1.2.2.1,x.2.1.2.2.2.1,x.2.1.2.2.2.2.1⟩:Raw) x.2.2.1 x.2.2.2.1 (fun q0=>k (.bool q0) [])
abbrev jC (R:Type):Type:=Nat→Bool→(List aj)→Int→Int→(Bool→Option R)→(Bool→Bool→Option R)→Option R
noncomputable def lT (R:Type) (iI:dt R) (fV:qJ R) (cz:jW R) (cS:lr R) (cD:jZ R) (bS:hM R) (di:cw R):Env R:=fun i=>match i with
  | 16=>some (true,(aA pA pB (lR iI) bg))
  | 30=>some (true,(aA zI zJ (Gl fV) bg))
  | 35=>some (true,(aA xb xc (Dc cz) bg))
  | 20=>some (true,(aA xT xU (Dm cS) bg))
  | 17=>some (true,(aA xB xC (Df cD) bg))
  | 32=>some (true,(aA tT tU (zB bS) bg))
  | 21=>some (true,(aA ma mb (iF di) bg))
  | _=>none
theorem G9 (R:Type):p6 Tryz.prog (lT R iI fV cz cS cD bS di):=by
  intro i b sp h
  unfold lT at h
  split at h
  · cases h; exact ⟨(NX R _ (aO _)),fun h=>nomatch h⟩
  · cases h; exact ⟨(Kt R _ (aO _)),fun h=>nomatch h⟩
  · cases h; exact ⟨(EX R _ (aO _)),fun h=>nomatch h⟩
  · cases h; exact ⟨(E6 R _ (aO _)),fun h=>nomatch h⟩
  · cases h; exact ⟨(E2 R _ (aO _)),fun h=>nomatch h⟩
  · cases h; exact ⟨(Ax R _ (aO _)),fun h=>nomatch h⟩
  · cases h; exact ⟨(Gk R _ (aO _)),fun h=>nomatch h⟩
  · cases h

noncomputable def oF {R:Type} (cS:lr R) (cD:jZ R) (bS:hM R) (di:cw R) (fy:Bool→(List aj)→Int→Int→Option R) (ym:Bool) (Oe:List aj) (x12:Int) (NG:Int) (e0:Bool→Option R) (e1:Bool→Bool→Option R):Option R :=
  bif (decide (NG<x12))then (cU (decide ((0:Int)≤NG)&&decide (NG<Oe.length)) (cS (Oe.getD NG.toNat (Ty.cn .str)) (fun uT F1 GU=>bif (F1 != 0)then (di (⟨uT.kind,⟨uT.num.aB,uT.num.exp⟩,uT.text,uT.names,uT.items⟩:Json) (⟨0,⟨0,0⟩,([]:aj),([]:List aj),([]:List Json)⟩:Json) (fun JE=>bif (!JE)then (e1 false ym)else (fy ym Oe x12 (IntKind.i64.wrap (NG+1)))))else (cD (⟨uT.kind,⟨uT.num.aB,uT.num.exp⟩,uT.text,uT.names,uT.items⟩:Json) (fun GA=>cS GA (fun KR LK Cp=>bS (⟨uT.kind,⟨uT.num.aB,uT.num.exp⟩,uT.text,uT.names,uT.items⟩:Json) (fun Sg=>bif (!Sg)then (e1 false ym)else (bif (GA==([]:aj))then (e1 false ym)else (bif (decide ((GA.length:Int)≤(20000:Int)))then (bif (LK != 0)then (e1 false ym)else (di (⟨uT.kind,⟨uT.num.aB,uT.num.exp⟩,uT.text,uT.names,uT.items⟩:Json) (⟨KR.kind,⟨KR.num.aB,KR.num.exp⟩,KR.text,KR.names,KR.items⟩:Json) (fun QI=>bif (!QI)then (e1 false ym)else (fy ym Oe x12 (IntKind.i64.wrap (NG+1))))))else (fy ym Oe x12 (IntKind.i64.wrap (NG+1))))))))))))else (e0 ym)
noncomputable def bB {R:Type}:jC R
  | 0,_,_,_,_,_,_=>none
  | n+1,lY,lZ,mF,tQ,e0,e1=>oF cS cD bS di (fun lY lZ mF tQ=>bB n lY lZ mF tQ e0 e1) lY lZ mF tQ e0 e1
noncomputable def oG:Hint := { live := [9,64,65,66],own := [],rows := [],cells := [],drop := [],out := [8,9] }
abbrev gk:Type:=Bool × (List aj) × Int × Int
noncomputable def nI:gk→St:=fun d=>⟨[.undef, .undef, .undef, .undef, .undef, .undef, .undef, .undef, .undef, .bool d.1, .undef, .undef, .undef, .undef, .undef, .undef, .undef, .undef, .undef, .undef, .undef, .undef, .undef, .undef, .undef, .undef, .undef, .undef, .undef, .undef, .undef, .undef, .undef, .undef, .undef, .undef, .undef, .undef, .undef, .undef, .undef, .undef, .undef, .undef, .undef, .undef, .undef, .undef, .undef, .undef, .undef, .undef, .undef, .undef, .undef, .undef, .undef, .undef, .undef, .undef, .undef, .undef, .undef, .undef, .sl .str d.2.1 (.own 0), .int .i64 d.2.2.1, .int .i64 d.2.2.2, .undef, .undef, .undef, .undef, .undef, .undef, .undef, .undef, .undef, .undef, .undef, .undef, .undef, .undef, .undef, .undef, .undef, .undef, .undef, .undef, .undef, .undef, .undef, .undef, .undef, .undef, .undef, .undef, .undef, .undef, .undef, .undef, .undef, .undef, .undef, .undef, .undef, .undef, .undef, .undef, .undef, .undef, .undef, .undef, .undef, .undef, .undef], [.tok]⟩
noncomputable def rJ {R:Type} (K:Ex→St→Option R) (q0:Bool):Option R:=K (.exit 0) ⟨[.undef, .undef, .undef, .undef, .undef, .undef, .undef, .undef, .undef, .bool q0, .undef, .undef, .undef, .undef, .undef, .undef, .undef, .undef, .undef, .undef, .undef, .undef, .undef, .undef, .undef, .undef, .undef, .undef, .undef, .undef, .undef, .undef, .undef, .undef, .undef, .undef, .undef, .undef, .undef, .undef, .undef, .undef, .undef, .undef, .undef, .undef, .undef, .undef, .undef, .undef, .undef, .undef, .undef, .undef, .undef, .undef, .undef, .undef, .undef, .undef, .undef, .undef, .undef, .undef, .undef, .undef, .undef, .undef, .undef, .undef, .undef, .undef, .undef, .undef, .undef, .undef, .undef, .undef, .undef, .undef, .undef, .undef, .undef, .undef, .undef, .undef, .undef, .undef, .undef, .undef, .undef, .undef, .undef, .undef, .undef, .undef, .undef, .undef, .undef, .undef, .undef, .undef, .undef, .undef, .undef, .undef, .undef, .undef, .undef, .undef, .undef, .undef, .undef, .undef], []⟩
noncomputable def rK {R:Type} (K:Ex→St→Option R) (q0:Bool) (q1:Bool):Option R:=K (.ret) ⟨[.undef, .undef, .undef, .undef, .undef, .undef, .undef, .undef, .bool q0, .bool q1, .undef, .undef, .undef, .undef, .undef, .undef, .undef, .undef, .undef, .undef, .undef, .undef, .undef, .undef, .undef, .undef, .undef, .undef, .undef, .undef, .undef, .undef, .undef, .undef, .undef, .undef, .undef, .undef, .undef, .undef, .undef, .undef, .undef, .undef, .undef, .undef, .undef, .undef, .undef, .undef, .undef, .undef, .undef, .undef, .undef, .undef, .undef, .undef, .undef, .undef, .undef, .undef, .undef, .undef, .undef, .undef, .undef, .undef, .undef, .undef, .undef, .undef, .undef, .undef, .undef, .undef, .undef, .undef, .undef, .undef, .undef, .undef, .undef, .undef, .undef, .undef, .undef, .undef, .undef, .undef, .undef, .undef, .undef, .undef, .undef, .undef, .undef, .undef, .undef, .undef, .undef, .undef, .undef, .undef, .undef, .undef, .undef, .undef, .undef, .undef, .undef, .undef, .undef, .undef], []⟩
noncomputable def sq {R:Type} (cS:lr R) (cD:jZ R) (bS:hM R) (di:cw R) (K:Ex→St→Option R) (rc:gk→Option R) (d:gk):Option R:=oF cS cD bS di (fun z0 z1 z2 z3=>rc (z0,z1,z2,z3)) d.1 d.2.1 d.2.2.1 d.2.2.2 (rJ K) (rK K)
noncomputable def jV {R:Type} (K:Ex→St→Option R) (n:Nat) (d:gk):Option R:=bB n d.1 d.2.1 d.2.2.1 d.2.2.2 (rJ K) (rK K)
abbrev gl:List bN := [.leaf (.undef), .leaf (.undef), .leaf (.undef), .leaf (.undef), .leaf (.undef), .leaf (.undef), .leaf (.undef), .leaf (.undef), .leaf (.undef), .leaf (.bool), .leaf (.undef), .leaf (.undef), .leaf (.undef), .leaf (.undef), .leaf (.undef), .leaf (.undef), .leaf (.undef), .leaf (.undef), .leaf (.undef), .leaf (.undef), .leaf (.undef), .leaf (.undef), .leaf (.undef), .leaf (.undef), .leaf (.undef), .leaf (.undef), .leaf (.undef), .leaf (.undef), .leaf (.undef), .leaf (.undef), .leaf (.undef), .leaf (.undef), .leaf (.undef), .leaf (.undef), .leaf (.undef), .leaf (.undef), .leaf (.undef), .leaf (.undef), .leaf (.undef), .leaf (.undef), .leaf (.undef), .leaf (.undef), .leaf (.undef), .leaf (.undef), .leaf (.undef), .leaf (.undef), .leaf (.undef), .leaf (.undef), .leaf (.undef), .leaf (.undef), .leaf (.undef), .leaf (.undef), .leaf (.undef), .leaf (.undef), .leaf (.undef), .leaf (.undef), .leaf (.undef), .leaf (.undef), .leaf (.undef), .leaf (.undef), .leaf (.undef), .leaf (.undef), .leaf (.undef), .leaf (.undef), .leaf (.MP .str 0), .leaf (.int .i64), .leaf (.int .i64), .leaf (.undef), .leaf (.undef), .leaf (.undef), .leaf (.undef), .leaf (.undef), .leaf (.undef), .leaf (.undef), .leaf (.undef), .leaf (.undef), .leaf (.undef), .leaf (.undef), .leaf (.undef), .leaf (.undef), .leaf (.undef), .leaf (.undef), .leaf (.undef), .leaf (.undef), .leaf (.undef), .leaf (.undef), .leaf (.undef), .leaf (.undef), .leaf (.undef), .leaf (.undef), .leaf (.undef), .leaf (.undef), .leaf (.undef), .leaf (.undef), .leaf (.undef), .leaf (.undef), .leaf (.undef), .leaf (.undef), .leaf (.undef), .leaf (.undef), .leaf (.undef), .leaf (.undef), .leaf (.undef), .leaf (.undef), .leaf (.undef), .leaf (.undef), .leaf (.undef), .leaf (.undef), .leaf (.undef), .leaf (.undef), .leaf (.undef), .leaf (.undef), .leaf (.undef), .leaf (.undef)]
abbrev gm:List aH := [.tok]
noncomputable def sr (x:bN.av gl) (y:aH.av gm):Nat:=(List.length x.2.2.2.2.2.2.2.2.2.2.2.2.2.2.2.2.2.2.2.2.2.2.2.2.2.2.2.2.2.2.2.2.2.2.2.2.2.2.2.2.2.2.2.2.2.2.2.2.2.2.2.2.2.2.2.2.2.2.2.2.2.2.2.2.1+Int.natAbs x.2.2.2.2.2.2.2.2.2.2.2.2.2.2.2.2.2.2.2.2.2.2.2.2.2.2.2.2.2.2.2.2.2.2.2.2.2.2.2.2.2.2.2.2.2.2.2.2.2.2.2.2.2.2.2.2.2.2.2.2.2.2.2.2.2.1+Int.natAbs x.2.2.2.2.2.2.2.2.2.2.2.2.2.2.2.2.2.2.2.2.2.2.2.2.2.2.2.2.2.2.2.2.2.2.2.2.2.2.2.2.2.2.2.2.2.2.2.2.2.2.2.2.2.2.2.2.2.2.2.2.2.2.2.2.2.2.1+64)
noncomputable def ss (x:bN.av gl) (y:aH.av gm):gk:=(x.2.2.2.2.2.2.2.2.2.1,x.2.2.2.2.2.2.2.2.2.2.2.2.2.2.2.2.2.2.2.2.2.2.2.2.2.2.2.2.2.2.2.2.2.2.2.2.2.2.2.2.2.2.2.2.2.2.2.2.2.2.2.2.2.2.2.2.2.2.2.2.2.2.2.2.1,x.2.2.2.2.2.2.2.2.2.2.2.2.2.2.2.2.2.2.2.2.2.2.2.2.2.2.2.2.2.2.2.2.2.2.2.2.2.2.2.2.2.2.2.2.2.2.2.2.2.2.2.2.2.2.2.2.2.2.2.2.2.2.2.2.2.1,x.2.2.2.2.2.2.2.2.2.2.2.2.2.2.2.2.2.2.2.2.2.2.2.2.2.2.2.2.2.2.2.2.2.2.2.2.2.2.2.2.2.2.2.2.2.2.2.2.2.2.2.2.2.2.2.2.2.2.2.2.2.2.2.2.2.2.1)
noncomputable def rL {R:Type} (L:jC R):bN.av gl→aH.av gm→(Ex→St→Option R)→Option R:=fun x y K=>L (sr x y) x.2.2.2.2.2.2.2.2.2.1 x.2.2.2.2.2.2.2.2.2.2.2.2.2.2.2.2.2.2.2.2.2.2.2.2.2.2.2.2.2.2.2.2.2.2.2.2.2.2.2.2.2.2.2.2.2.2.2.2.2.2.2.2.2.2.2.2.2.2.2.2.2.2.2.2.1 x.2.2.2.2.2.2.2.2.2.2.2.2.2.2.2.2.2.2.2.2.2.2.2.2.2.2.2.2.2.2.2.2.2.2.2.2.2.2.2.2.2.2.2.2.2.2.2.2.2.2.2.2.2.2.2.2.2.2.2.2.2.2.2.2.2.1 x.2.2.2.2.2.2.2.2.2.2.2.2.2.2.2.2.2.2.2.2.2.2.2.2.2.2.2.2.2.2.2.2.2.2.2.2.2.2.2.2.2.2.2.2.2.2.2.2.2.2.2.2.2.2.2.2.2.2.2.2.2.2.2.2.2.2.1 (rJ K) (rK K)
noncomputable def pC (R:Type) (bB:jC R):Nat→Option (Hint × cr R):=fun i=>match i with
  | 7=>some (oG,(gu gl gm (rL bB) qv))
  | _=>none

theorem Dp {R:Type} (iI:dt R) (fV:qJ R) (cz:jW R) (cS:lr R) (cD:jZ R) (bS:hM R) (di:cw R) (bB:jC R) (K:Ex→St→Option R) (rc:St→Option R) (d:gk):roundOf tt (lT R iI fV cz cS cD bS di) (pC R bB) 0 ((aP (aK Tryz.f11)).getD 0 .skip) oG (nI d) rc K=sq cS cD bS di K (fun d=>rc (nI d)) d:=by kernel_rfl
theorem Cm {R:Type} (K:Ex→St→Option R) (n:Nat) (d:gk):jV K (n+1) d=sq cS cD bS di K (jV K n) d:=by kernel_rfl
theorem Cn {R:Type} (K:Ex→St→Option R) (d:gk):jV K 0 d=none:=by kernel_rfl
theorem Dq (x:bN.av gl) (y:aH.av gm):(⟨bN.cV gl x,aH.cV gm y⟩:St)=nI (ss x y):=by kernel_rfl
theorem Dr {R:Type} (x:bN.av gl) (y:aH.av gm) (K:Ex→St→Option R):rL (bB) x y K=jV K (sr x y) (ss x y):=by kernel_rfl
theorem ER {R:Type} (other:cr R) (ho:o3 tt (lT R iI fV cz cS cD bS di) (pC R bB) 0 ((aP (aK Tryz.f11)).getD 0 .skip) oG other):o3 tt (lT R iI fV cz cS cD bS di) (pC R bB) 0 ((aP (aK Tryz.f11)).getD 0 .skip) oG (gu gl gm (rL (bB)) other) :=
  gN (A:=jV) ho (kB nI (sq cS cD bS di) (jV) (Cn) (Dp iI fV cz cS cD bS di bB) (Cm)) sr ss Dq (Dr)

noncomputable def sR {R:Type} (iI:dt R) (fV:qJ R) (cz:jW R) (cD:jZ R) (bB:jC R) (x1:aj) (x2:Raw) (x3:Int) (x4:aj) (k0:Bool→Option R):Option R :=
  fV (fun y5=>iI (⟨x2.kind,x2.aB,x2.exp,x2.text,x2.items⟩:Raw) 1 (fun y6=>cD (⟨y6.kind,⟨y6.num.aB,y6.num.exp⟩,y6.text,y6.names,y6.items⟩:Json) (fun y7=>bif (decide ((x1.length:Int)>(3000:Int)))then (k0 y5)else (bif (decide ((y7.length:Int)>(3000:Int)))then (k0 y5)else (cz x3 (IntKind.i64.wrap ((y7.length:Int)+1)) (fun y9=>cU (decide ((0:Int)≤y9)&&decide (y9≤y7.length)) (cU (decide ((0:Int)≤y9)) (cU (decide (((y7.drop 0).take (y9.toNat - 0)).length+x4.length≤9223372036854775807)) (cU (decide ((0:Int)≤(y7.length:Int))&&decide ((y7.length:Int)≤y7.length)) (cU (decide ((0:Int)≤(min (IntKind.i64.wrap (y9+(x4.length:Int))) (y7.length:Int)))&&decide ((min (IntKind.i64.wrap (y9+(x4.length:Int))) (y7.length:Int))≤(y7.length:Int))) (cU (decide ((((y7.drop 0).take (y9.toNat - 0))++x4).length+((y7.drop (min (IntKind.i64.wrap (y9+(x4.length:Int))) (y7.length:Int)).toNat).take ((y7.length:Int).toNat - (min (IntKind.i64.wrap (y9+(x4.length:Int))) (y7.length:Int)).toNat)).length≤9223372036854775807)) (cU (decide ((0:Int)≤y9)&&decide (y9≤y7.length)) (cU (decide ((0:Int)≤y9)) (cU (decide (((y7.drop 0).take (y9.toNat - 0)).length+x4.length≤9223372036854775807)) (cU (decide ((0:Int)≤(y7.length:Int))&&decide ((y7.length:Int)≤y7.length)) (cU (decide ((0:Int)≤y9)&&decide (y9≤(y7.length:Int))) (cU (decide ((((y7.drop 0).take (y9.toNat - 0))++x4).length+((y7.drop y9.toNat).take ((y7.length:Int).toNat - y9.toNat)).length≤9223372036854775807)) (bB (List.length ([x1,((((y7.drop 0).take (y9.toNat - 0))++x4)++((y7.drop (min (IntKind.i64.wrap (y9+(x4.length:Int))) (y7.length:Int)).toNat).take ((y7.length:Int).toNat - (min (IntKind.i64.wrap (y9+(x4.length:Int))) (y7.length:Int)).toNat))),((((y7.drop 0).take (y9.toNat - 0))++x4)++((y7.drop y9.toNat).take ((y7.length:Int).toNat - y9.toNat)))]:List aj)+Int.natAbs 3+Int.natAbs 0+64) y5 ([x1,((((y7.drop 0).take (y9.toNat - 0))++x4)++((y7.drop (min (IntKind.i64.wrap (y9+(x4.length:Int))) (y7.length:Int)).toNat).take ((y7.length:Int).toNat - (min (IntKind.i64.wrap (y9+(x4.length:Int))) (y7.length:Int)).toNat))),((((y7.drop 0).take (y9.toNat - 0))++x4)++((y7.drop y9.toNat).take ((y7.length:Int).toNat - y9.toNat)))]:List aj) 3 0 (fun GB=>k0 GB) (fun Jb Jc=>k0 Jb)))))))))))))))))))
noncomputable def sa {R:Type}:Ck R:=fun x1 x2 x3 x4 k0=>sR iI fV cz cD bB x1 x2 x3 x4 k0
theorem Ic {R:Type} (iI:dt R) (fV:qJ R) (cz:jW R) (cS:lr R) (cD:jZ R) (bS:hM R) (di:cw R) (bB:jC R) (x1:aj) (x2:Raw) (x3:Int) (x4:aj) (k:V→az→Option R):iP tt (lT R iI fV cz cS cD bS di) (pC R bB) false Tryz.f11 (aK Tryz.f11) [.str x1, .agg [.int .i64 x2.kind, .int .i64 x2.aB, .int .i64 x2.exp, .sl (.int .i64) x2.text .no, .sl .raw x2.items .no], .int .i64 x3, .str x4] [] k =
    sR iI fV cz cD bB x1 x2 x3 x4 (fun q0=>k (.bool q0) []):=by kernel_rfl
theorem Fy (R:Type):∀a∈aP (aK Tryz.f11),cR tt (lT R iI fV cz cS cD bS di) (pC R bB) 0 a:=by
  refine bG 1 (by kernel_rfl) fun i hi => ?_
  match i,hi with
  | 0,_=>exact fC (by kernel_rfl) (ER _ jc)
  | n+1,hi=>omega
theorem Gp (R:Type) (other:ay.Spec R) (ho:ay.Spec.Ok Tryz.prog 11 other):ay.Spec.Ok Tryz.prog 11 (aA sP sQ (Cl sa) other) :=
  bu ho (bj TT mixed (G9 R) (keep:=false) rfl rfl rfl rfl 0 (Fy R)) fun (x:bN.av sP) (y:aH.av sQ) k=>Ic iI fV cz cS cD bS di bB x.1 (⟨x.2.1.1,x.2.1.2.1,x.2.1.2.2.1,x.2.1.2.2.2.1,x.2.1.2.2.2.2.1⟩:Raw) x.2.2.1 x.2.2.2.1 k

end Go.Proofs.YtmlkkgfenfdndaaGreatDoor

/-
  Functions of the program as pure Lean functions, and the ties; printed by wip/tools/emit.py.
-/
set_option maxRecDepth 100000
namespace Go.Proofs.YtmlkkgfenfdndaaGreatDoor
open Go Go.ay

end Go.Proofs.YtmlkkgfenfdndaaGreatDoor

set_option maxRecDepth 100000
namespace Go.Proofs.YtmlkkgfenfdndaaGreatDoor
open Go Go.ay Go.Lib

theorem raw_bulk {x:Raw} (h:∃n,NR n (Ty.cells .raw x)∧n≤1048576):Raw.ok x∧Raw.tot x≤1048576:=by
  obtain ⟨n,h1,h2⟩:=h
  obtain ⟨g1,g2⟩:=wt_raw x n h2 h1
  exact ⟨g2,by omega⟩

structure Lone (x:pr):Prop where
  head:∃c u,x.2.1=c::u∧qM c=false
  met:∀r,Ht r→tokS (x.2.1++r)=some (x.2.2,r)
  quo:x.2.2.kind=2→gO x.2.2.text=true∧x.2.1=Lq x.2.2.text
  own:x.2.2.kind≠2→x.2.2.text=x.2.1

theorem GI {x:pr} (h:∀r,Ht r→okW [x] r) (h2:x.2.2.kind=2→gO x.2.2.text=true∧x.2.1=Lq x.2.2.text) (h3:x.2.2.kind≠2→x.2.2.text=x.2.1):Lone x:=by
  obtain ⟨_,g2,_⟩:=h [] (.inl rfl)
  exact ⟨g2,fun r hr=>(h r hr).2.2.1,h2,h3⟩
theorem ES {c:UInt8} (hc:H5 c=true):Lone (sg c):=GI (fun r _=>Ai hc r) (fun h=>by cases h) (fun _=>rfl)
theorem VM {t:aj} (ht:gO t=true):Lone (UA t):=GI (fun r _=>NB ht r) (fun _=>⟨ht,rfl⟩) (fun h=>(h rfl).elim)

mutual
theorem loneJ:∀(v:Json) (d:Int),fU v d=true→∀x∈rE v,Lone x
  | ⟨k,n,t,ns,is⟩,d,h,x,hx=>by
    have hL:=loneL is
    have hO:=loneO ns is
    cases gw.1 h with
    | name _ _ hd hk =>
      rcases hk with rfl|rfl|rfl
      · obtain rfl:=List.mem_singleton.1 hx
        exact GI (fun r hr=>Ah (BT (.inr (.inr rfl))) hr) (fun h=>by cases h) (fun _=>rfl)
      · obtain rfl:=List.mem_singleton.1 hx
        exact GI (fun r hr=>Ah (BT (.inr (.inl rfl))) hr) (fun h=>by cases h) (fun _=>rfl)
      · obtain rfl:=List.mem_singleton.1 hx
        exact GI (fun r hr=>Ah (BT (.inl rfl)) hr) (fun h=>by cases h) (fun _=>rfl)
    | num _ _ hd hn =>
      have e:za n=Od n:=by unfold za; rw[GG.2 hn]; rfl
      have R1:x∈([([],za n,⟨3,za n,n,0⟩)]:List pr):=hx
      obtain rfl:=List.mem_singleton.1 R1
      refine GI (fun r hr => ?_) (fun h=>by cases h) (fun _=>rfl)
      rw[e]
      exact Ah (SE hn) hr
    | text _ _ hd ht =>
      have R1:x∈([UA t]:List pr):=hx
      obtain rfl:=List.mem_singleton.1 R1
      exact VM ht
    | arr _ _ hd hi =>
      have R1:x∈([sg 91]++(pK is true ++ [sg 93]):List pr):=hx
      rw[List.mem_append,List.mem_append,List.mem_singleton,List.mem_singleton]at R1
      rcases R1 with rfl|hx|rfl
      · exact ES (by decide)
      · exact hL true (d+1) hi x hx
      · exact ES (by decide)
    | obj _ _ _ hd hl hu hi =>
      have R1:x∈([sg 123]++(nM ns is true ++ [sg 125]):List pr):=hx
      rw[List.mem_append,List.mem_append,List.mem_singleton,List.mem_singleton]at R1
      rcases R1 with rfl|hx|rfl
      · exact ES (by decide)
      · exact hO true (d+1) hi hl (fun t ht=>EO ns [] hu t ht) x hx
      · exact ES (by decide)
theorem loneL:∀(l:List Json) (first:Bool) (d:Int),fX l d=true→∀x∈pK l first,Lone x
  | [],_,_,_,x,hx=>by simp[pK]at hx
  | y::l,first,d,h,x,hx=>by
    simp only[fX,Bool.and_eq_true]at h
    have h1:=loneJ y d h.1
    have h2:=loneL l false d h.2
    simp only[pK,List.mem_append]at hx
    rcases hx with hx|hx|hx
    · cases first
      · simp at hx; rw[hx]; exact ES (by decide)
      · simp at hx
    · exact h1 x hx
    · exact h2 x hx
theorem loneO:∀(ns:List aj) (l:List Json) (first:Bool) (d:Int),fX l d=true→ns.length=l.length→(∀t∈ns,gO t=true)→∀x∈nM ns l first,Lone x
  | _, [],_,_,_,_,_,x,hx=>by simp[nM]at hx
  | [],y::l,_,_,_,hl,_,_,_=>by cases hl
  | n::ns,y::l,first,d,h,hl,hv,x,hx=>by
    simp only[fX,Bool.and_eq_true]at h
    have h1:=loneJ y d h.1
    have h2:=loneO ns l false d h.2 (by simpa using hl) (fun t ht=>hv t (by simp[ht]))
    simp only[nM,List.headD_cons,List.tail_cons,List.mem_append,List.mem_cons]at hx
    rcases hx with hx|rfl|rfl|hx|hx
    · cases first
      · simp at hx; rw[hx]; exact ES (by decide)
      · simp at hx
    · exact VM (hv n (by simp))
    · exact ES (by decide)
    · exact h1 x hx
    · exact h2 x hx
end

theorem qb_pos (b:UInt8):1≤(qb b).length:=by unfold qb; (repeat' split) <;> simp
theorem qtS_ge (t:aj):t.length≤(Lq t).length:=by
  have:∀l:aj,l.length≤(l.flatMap qb).length:=by
    intro l
    induction l with
    | nil=>simp
    | cons b l ih =>
      have:=qb_pos b
      simp only[List.flatMap_cons,List.length_append,List.length_cons]
      omega
  have:=this t
  unfold Lq
  simp only[List.length_cons,List.length_append]
  omega

def An (t:Token):Prop:=(t.kind=3→Fm t.num)∧(t.kind=2→gO t.text=true)∧(t.kind=4→zi t.text=true)
theorem N1 {x:aj} (h:zi x=true):∃k:Int,(k=1∨k=2∨k=3)∧nJ .str (.int .i64) x NL=k:=by
  unfold zi at h
  rw[Bool.or_eq_true,Bool.or_eq_true,beq_iff_eq,beq_iff_eq,beq_iff_eq]at h
  rcases h with rfl|rfl|rfl
  · exact ⟨1, .inl rfl,rfl⟩
  · exact ⟨2, .inr (.inl rfl),rfl⟩
  · exact ⟨3, .inr (.inr rfl),rfl⟩
theorem D2 {x:aj} {ts r:List Token} (h:∀t∈ts,An t) (hs:lq x ts=some r):∀t∈r,An t:=by
  cases ts with
  | nil=>cases hs
  | cons t ts =>
    simp only[lq]at hs
    split at hs
    · cases hs; exact fun u hu=>h u (by simp[hu])
    · cases hs
theorem SV {ns:List aj} {ts:List Token} {p:aj × List Token} (h:∀t∈ts,An t) (hs:C4 ns ts = .ok p):gO p.1=true∧ns.contains p.1=false∧∀t∈p.2,An t:=by
  cases ts with
  | nil=>cases hs
  | cons t ts =>
    simp only[C4]at hs
    split at hs
    · cases hs
    · rename_i hk
      split at hs
      · cases hs
      · rename_i hc
        split at hs
        · rename_i r hr
          cases hs
          exact ⟨(h t (by simp)).2.1 (by simpa using hk),by simpa using hc,D2 (fun u hu=>h u (by simp[hu])) hr⟩
        · cases hs

def Sound (f:List Token→Except Of (Json × List Token)) (d:Int):Prop:=∀ts p,(∀t∈ts,An t)→f ts = .ok p→fU p.1 d=true∧∀t∈p.2,An t
def Inv (obj:Bool) (d:Int) (ns:List aj) (is:List Json):Prop:=fX is d=true∧(obj=true→ns.length=is.length∧vm [] ns=true)∧(obj=false→ns = [])
theorem SW {f:List Token→Except Of (Json × List Token)} {d:Int} (hf:Sound f d) {obj:Bool} {ns:List aj} {is:List Json} {ts:List Token} {p:(List aj × List Json) × List Token} (h:∀t∈ts,An t) (hi:Inv obj d ns is) (hs:um f obj ns is ts = .ok p) :
    Inv obj d p.1.1 p.1.2∧∀t∈p.2,An t:=by
  obtain ⟨i1,i2,i3⟩:=hi
  cases obj with
  | true =>
    simp only[um]at hs
    split at hs
    · cases hs
    · rename_i nm ts1 hn
      obtain ⟨g1,g2,g3⟩:=SV h hn
      split at hs
      · cases hs
      · rename_i v H8 hv
        obtain ⟨k1,k2⟩:=hf _ _ g3 hv
        cases hs
        obtain ⟨j1,j2⟩:=i2 rfl
        refine ⟨⟨by rw[Cj,i1,k1]; rfl,fun _=>⟨by simp[j1],?_⟩,fun h=>by cases h⟩,k2⟩
        simp only at g1 g2
        rw[NZ,j2,g2,g1]
        rfl
  | false =>
    simp only[um]at hs
    split at hs
    · cases hs
    · rename_i v H8 hv
      obtain ⟨k1,k2⟩:=hf _ _ h hv
      cases hs
      exact ⟨⟨by rw[Cj,i1,k1]; rfl,(fun h=>by cases h),i3⟩,k2⟩
theorem N2 {f:List Token→Except Of (Json × List Token)} {d:Int} (hf:Sound f d) {cl:aj} {obj:Bool}:∀(m:Nat) (ns:List aj) (is:List Json) (ts:List Token) (p:(List aj × List Json) × List Token),
    (∀t∈ts,An t)→Inv obj d ns is→vy f cl obj m ns is ts = .ok p→Inv obj d p.1.1 p.1.2∧∀t∈p.2,An t
  | 0,_,_,_,_,_,_,h=>by cases h
  | m+1,ns,is,ts,p,h,hi,hs=>by
    simp only[vy]at hs
    split at hs
    · cases hs
    · rename_i q H8 hq
      obtain ⟨g1,g2⟩:=SW hf h hi hq
      split at hs
      · rename_i r hr
        cases hs
        exact ⟨g1,D2 g2 hr⟩
      · split at hs
        · rename_i r hr
          exact N2 hf m _ _ _ _ (D2 g2 hr) g1 hs
        · cases hs
theorem JC:∀(n:Nat) (d:Int),Sound (uS n d) d
  | 0,_,_,_,_,h=>by cases h
  | _+1,_, [],_,_,h=>by cases h
  | n+1,d,t::r,p,ht,h=>by
    have h0:=ht t (by simp)
    have hr0:∀u∈r,An u:=fun u hu=>ht u (by simp[hu])
    simp only[uS]at h
    split at h
    · cases h
    rename_i RY
    split at h
    · cases h
    rename_i hd
    have UK:d≤16:=by omega
    split at h
    · cases C9:t.text==([123]:aj)with
      | true =>
        rw[C9]at h
        simp only[if_true]at h
        split at h
        · rename_i r' hr
          cases h
          exact ⟨gw.2 (.obj [] [] d UK rfl rfl rfl),D2 hr0 hr⟩
        · split at h
          · cases h
          · rename_i q r' hq
            cases h
            obtain ⟨⟨g1,g2,_⟩,g4⟩:=N2 (JC n (d+1)) _ _ _ _ _ hr0 ⟨rfl,fun _=>⟨rfl,rfl⟩,fun _=>rfl⟩ hq
            obtain ⟨g5,g6⟩:=g2 rfl
            exact ⟨gw.2 (.obj _ _ d UK g5 g6 g1),g4⟩
      | false =>
        rw[C9]at h
        simp only[Bool.false_eq_true,if_false]at h
        split at h
        · rename_i r' hr
          cases h
          exact ⟨gw.2 (.arr [] d UK rfl),D2 hr0 hr⟩
        · split at h
          · cases h
          · rename_i q r' hq
            cases h
            obtain ⟨⟨g1,_,g3⟩,g4⟩:=N2 (JC n (d+1)) _ _ _ _ _ hr0 ⟨rfl,(fun h=>by cases h),fun _=>rfl⟩ hq
            have:=g3 rfl
            simp only at this ⊢
            rw[this]
            exact ⟨gw.2 (.arr _ d UK g1),g4⟩
    rename_i TL
    split at h
    · rename_i Lu
      cases h
      obtain ⟨k,hk,e⟩:=N1 Lu.2
      simp only[e]
      exact ⟨gw.2 (.name k d UK hk),hr0⟩
    rename_i Lu
    split at h
    · rename_i XR
      cases h
      exact ⟨gw.2 (.num _ d UK (h0.1 XR)),hr0⟩
    · rename_i XR
      cases h
      have GN:t.kind=2:=by
        have hst':rG t=true:=by simpa using RY
        simp only[rG,Bool.or_eq_true,Bool.and_eq_true,beq_iff_eq]at hst'
        rcases hst' with h|h|h|⟨h,h'⟩
        · exact h
        · exact (XR h).elim
        · exact (Lu ⟨h,h0.2.2 h⟩).elim
        · exact (TL ⟨h,h'⟩).elim
      exact ⟨gw.2 (.text _ d UK (h0.2.1 GN)),hr0⟩

theorem VN (neg:Bool) (all:aj) (x:Int) (h:∀c∈all,nU c) (ok:(SB neg all x).2=true):Fm (SB neg all x).1:=by
  unfold SB at ok ⊢
  by_cases h0:cY (bD all [48]) [48] = []
  · rw[if_pos h0]
    exact Fm.mk0
  rw[if_neg h0]at ok ⊢
  obtain ⟨f1,f2,f3⟩:=KS all h h0
  have hm:Int.tmod (r6 (cY (bD all [48]) [48]) 0:Int) 10≠0:=by rw[Int.tmod_eq_emod_of_nonneg (by omega)]; omega
  cases neg with
  | true =>
    rw[if_pos rfl]at ok ⊢
    obtain ⟨e,g⟩:=ZY (tmod_neg hm) ok
    rw[e]
    exact g
  | false =>
    rw[if_neg (by simp)]at ok ⊢
    obtain ⟨e,g⟩:=ZY hm ok
    rw[e]
    exact g
theorem SX (neg:Bool) (all:aj) (x:Int) (X:aj) (h:∀c∈all,nU c) (ok:(tailD neg all x X).2=true):Fm (tailD neg all x X).1:=by
  unfold tailD at ok ⊢
  split
  · rename_i h1
    rw[if_pos h1]at ok
    split
    · rename_i h2
      rw[if_pos h2]at ok
      exact VN _ _ _ h ok
    · exact Fm.mk0
  · rename_i h1
    rw[if_neg h1]at ok
    split
    · exact Fm.mk0
    · rename_i h2
      rw[if_neg h2]at ok
      split
      · rename_i h3
        rw[if_pos h3]at ok
        exact VN _ _ _ h ok
      · exact Fm.mk0
theorem XJ (s:aj) (ok:(xN s).2=true):Fm (xN s).1:=by
  unfold xN at ok ⊢
  simp only at ok ⊢
  split
  · exact Fm.mk0
  rename_i h1
  rw[if_neg h1]at ok
  split
  · exact Fm.mk0
  rename_i h2
  rw[if_neg h2]at ok
  split
  · exact Fm.mk0
  rename_i h3
  rw[if_neg h3]at ok
  split
  · rename_i h4
    rw[if_pos h4]at ok
    exact SX _ _ _ _ (Cd _) ok
  · rename_i h4
    rw[if_neg h4]at ok
    split
    · exact Fm.mk0
    · rename_i h5
      rw[if_neg h5]at ok
      exact SX _ _ _ _ (fun c hc=>(List.mem_append.1 hc).elim (Cd _ c) (Cd _ c)) ok

theorem uq_len:∀(n:Nat) (s o o' r:aj),uq n s o=some (o',r)→o'.length+4*r.length≤o.length+4*s.length
  | 0,_,_,_,_,h=>by cases h
  | n+1,s,o,o',r,h=>by
    simp only[uq]at h
    split at h
    · simp only[Option.some.injEq,Prod.mk.injEq]at h
      obtain ⟨rfl,rfl⟩:=h
      rw[List.length_drop]
      omega
    · split at h
      · cases h
      · rename_i c r1 hs
        have h1:=uq_len n r1 (o++enc c) o' r h
        obtain ⟨hv,hl⟩:=Ns hs
        have h2:=(zx hv).2
        simp only[List.length_append]at h1
        omega
theorem tokS_ok {s r:aj} {t:Token} (h:tokS s=some (t,r)):An t∧t.text.length≤4*s.length:=by
  cases s with
  | nil=>cases h
  | cons c u =>
    simp only[tokS]at h
    split at h
    · split at h
      · rename_i hp
        simp only[Option.some.injEq,Prod.mk.injEq]at h
        rw[←h.1]
        refine ⟨⟨fun _=>XJ _ hp,(fun h=>by cases h),(fun h=>by cases h)⟩,?_⟩
        have:=(List.takeWhile_prefix (l:=c::u) Af).length_le
        simp only
        omega
      · cases h
    · split at h
      · split at h
        · rename_i o q hq
          simp only[Option.some.injEq,Prod.mk.injEq]at h
          rw[←h.1]
          obtain ⟨_,_,rs,h3,h4⟩:=QS hq
          refine ⟨⟨(fun h=>by cases h),fun _=>BS.2 ⟨rs,h3,h4⟩,(fun h=>by cases h)⟩,?_⟩
          unfold X4 at hq
          split at hq
          · have:=uq_len _ _ _ _ _ hq
            rw[List.length_drop]at this
            simp only[List.length_nil,List.length_cons]at this ⊢
            omega
          · cases hq
        · cases h
      · split at h
        · simp only[Option.some.injEq,Prod.mk.injEq]at h
          rw[←h.1]
          exact ⟨⟨(fun h=>by cases h),(fun h=>by cases h),(fun h=>by cases h)⟩,by simp; omega⟩
        · split at h
          · rename_i hw
            simp only[Option.some.injEq,Prod.mk.injEq]at h
            rw[←h.1]
            refine ⟨⟨(fun h=>by cases h),(fun h=>by cases h),fun _ => ?_⟩,?_⟩
            · rcases hw with hw|hw|hw <;> simp only[hw] <;> rfl
            · have:=(List.takeWhile_prefix (l:=c::u) yZ).length_le
              simp only
              omega
          · cases h
def VO (t:Token):Prop:=An t∧t.text.length≤80000
theorem N3:∀(n p:Nat) (s:aj) (out:List Token),s.length≤20000→(∀t∈out,VO t)→∀t∈(uj n p s out).1,VO t
  | 0,_,_,_,_,_=>by intro t ht; cases ht
  | n+1,p,s,out,hs,ho=>by
    simp only[uj]
    split
    · intro t ht
      rcases List.mem_append.1 ht with ht|ht
      · exact ho t ht
      · obtain rfl:=List.mem_singleton.1 ht
        exact ⟨⟨(fun h=>by cases h),(fun h=>by cases h),(fun h=>by cases h)⟩,by simp⟩
    · have hd:=xa qM s
      split
      · intro t ht; cases ht
      · rename_i t r hr
        have h3:=(tokS_sfx hr).2
        obtain ⟨g1,g2⟩:=tokS_ok hr
        refine N3 n _ r _ (by omega) fun x hx => ?_
        rcases List.mem_append.1 hx with hx|hx
        · exact ho x hx
        · obtain rfl:=List.mem_singleton.1 hx
          exact ⟨g1,by show t.text.length≤80000; omega⟩
theorem UL (s:aj):∀t∈(pV s).1,VO t:=by
  unfold pV
  split
  · intro t ht; cases ht
  · exact N3 _ _ _ _ (by omega) (by intro t ht; cases ht)

def tokN (t:Token):Nat:=6*t.text.length+70
def tokL:List Token→Nat
  | []=>0
  | t::l=>tokN t+tokL l
theorem tokL_le:∀(l:List Token),(∀t∈l,VO t)→tokL l≤l.length*480070
  | [],_=>Nat.le_refl _
  | t::l,h=>by
    have h1:=tokL_le l fun x hx=>h x (by simp[hx])
    have h2:=(h t (by simp)).2
    simp only[tokL,tokN,List.length_cons]
    omega
theorem Co {x:aj} {ts r:List Token} (hs:lq x ts=some r):tokL r+70≤tokL ts:=by
  cases ts with
  | nil=>cases hs
  | cons t ts =>
    simp only[lq]at hs
    split at hs
    · cases hs; simp only[tokL,tokN]; omega
    · cases hs
theorem UM {ns:List aj} {ts:List Token} {p:aj × List Token} (hs:C4 ns ts = .ok p):(Lq p.1).length+tokL p.2+130≤tokL ts:=by
  cases ts with
  | nil=>cases hs
  | cons t ts =>
    simp only[C4]at hs
    split at hs
    · cases hs
    · split at hs
      · cases hs
      · split at hs
        · rename_i r hr
          cases hs
          have h1:=Co hr
          have h2:=LS t.text
          simp only[tokL,tokN]
          omega
        · cases hs
def Sized (f:List Token→Except Of (Json × List Token)):Prop:=∀ts p,(∀t∈ts,An t)→f ts = .ok p→(eT p.1).length+tokL p.2≤tokL ts
def KW (obj:Bool) (ns:List aj) (is:List Json):Nat:=if obj then (lG ns is true).length else (mf is true).length
theorem UN {f:List Token→Except Of (Json × List Token)} {d:Int} (hs0:Sound f d) (hf:Sized f) {obj:Bool} {ns:List aj} {is:List Json} {ts:List Token} {p:(List aj × List Json) × List Token} (h:∀t∈ts,An t) (hi:Inv obj d ns is) (hs:um f obj ns is ts = .ok p) :
    KW obj p.1.1 p.1.2+tokL p.2≤KW obj ns is+1+tokL ts:=by
  obtain ⟨i1,i2,i3⟩:=hi
  cases obj with
  | true =>
    simp only[um]at hs
    split at hs
    · cases hs
    · rename_i nm ts1 hn
      obtain ⟨_,_,g3⟩:=SV h hn
      have g4:=UM hn
      split at hs
      · cases hs
      · rename_i v H8 hv
        have k1:=hf _ _ g3 hv
        cases hs
        have:=Ib ns is nm v true (i2 rfl).1
        simp only[KW,if_true]at g4 k1 ⊢
        omega
  | false =>
    simp only[um]at hs
    split at hs
    · cases hs
    · rename_i v H8 hv
      have k1:=hf _ _ h hv
      cases hs
      have:=Ia is v true
      simp only[KW,Bool.false_eq_true,if_false]at k1 ⊢
      omega
theorem Ie {f:List Token→Except Of (Json × List Token)} {d:Int} (hs0:Sound f d) (hf:Sized f) {cl:aj} {obj:Bool}:∀(m:Nat) (ns:List aj) (is:List Json) (ts:List Token) (p:(List aj × List Json) × List Token),
    (∀t∈ts,An t)→Inv obj d ns is→vy f cl obj m ns is ts = .ok p→KW obj p.1.1 p.1.2+tokL p.2+60≤KW obj ns is+1+tokL ts
  | 0,_,_,_,_,_,_,h=>by cases h
  | m+1,ns,is,ts,p,h,hi,hs=>by
    simp only[vy]at hs
    split at hs
    · cases hs
    · rename_i q H8 hq
      obtain ⟨g1,g2⟩:=SW hs0 h hi hq
      have g3:=UN hs0 hf h hi hq
      split at hs
      · rename_i r hr
        cases hs
        have g4:=Co hr
        simp only at g3 g4 ⊢
        omega
      · split at hs
        · rename_i r hr
          have g4:=Co hr
          have g5:=Ie hs0 hf m _ _ _ _ (D2 g2 hr) g1 hs
          simp only at g3 g4 g5 ⊢
          omega
        · cases hs
theorem SY {k:Int} (hk:k=1∨k=2∨k=3):(eT ⟨k,⟨0,0⟩, [], [], []⟩).length≤60:=by
  rcases hk with rfl|rfl|rfl <;> decide
theorem Kv:∀(n:Nat) (d:Int),Sized (uS n d)
  | 0,_,_,_,_,h=>by cases h
  | _+1,_, [],_,_,h=>by cases h
  | n+1,d,t::r,p,ht,h=>by
    have h0:=ht t (by simp)
    have hr0:∀u∈r,An u:=fun u hu=>ht u (by simp[hu])
    have et:tokL (t::r)=tokN t+tokL r:=rfl
    have en:tokN t=6*t.text.length+70:=rfl
    simp only[uS]at h
    split at h
    · cases h
    split at h
    · cases h
    split at h
    · cases C9:t.text==([123]:aj)with
      | true =>
        rw[C9]at h
        simp only[if_true]at h
        split at h
        · rename_i r' hr
          cases h
          have:=Co hr
          show 2+tokL r'≤_
          omega
        · split at h
          · cases h
          · rename_i q r' hq
            cases h
            have g:=Ie (JC n (d+1)) (Kv n (d+1)) _ _ _ _ _ hr0 ⟨rfl,fun _=>⟨rfl,rfl⟩,fun _=>rfl⟩ hq
            have e:eT ⟨7,⟨0,0⟩, [],q.1,q.2⟩=123::(lG q.1 q.2 true ++ [125]):=by simp only[eT]; rfl
            simp only[KW,if_true,lG,List.length_nil]at g
            show (eT ⟨7,⟨0,0⟩, [],q.1,q.2⟩).length+tokL r'≤_
            rw[e]
            simp only[List.length_cons,List.length_append,List.length_nil]
            omega
      | false =>
        rw[C9]at h
        simp only[Bool.false_eq_true,if_false]at h
        split at h
        · rename_i r' hr
          cases h
          have:=Co hr
          show 2+tokL r'≤_
          omega
        · split at h
          · cases h
          · rename_i q r' hq
            cases h
            have g:=Ie (JC n (d+1)) (Kv n (d+1)) _ _ _ _ _ hr0 ⟨rfl,(fun h=>by cases h),fun _=>rfl⟩ hq
            have e:eT ⟨6,⟨0,0⟩, [],q.1,q.2⟩=91::(mf q.2 true ++ [93]):=by simp only[eT]; rfl
            simp only[KW,Bool.false_eq_true,if_false,mf,List.length_nil]at g
            show (eT ⟨6,⟨0,0⟩, [],q.1,q.2⟩).length+tokL r'≤_
            rw[e]
            simp only[List.length_cons,List.length_append,List.length_nil]
            omega
    rename_i TL
    split at h
    · rename_i Lu
      cases h
      obtain ⟨k,hk,e⟩:=N1 Lu.2
      have:=SY hk
      simp only[e]
      omega
    rename_i Lu
    split at h
    · rename_i XR
      cases h
      have:=SU (h0.1 XR)
      have e:eT ⟨4,t.num, [], [], []⟩=za t.num:=by simp only[eT]; rfl
      simp only[e]
      omega
    · cases h
      have:=LS t.text
      have e:eT ⟨5,⟨0,0⟩,t.text, [], []⟩=Lq t.text:=by simp only[eT]; rfl
      simp only[e]
      omega

mutual
theorem Kw:∀(v:Json) (d:Int),fU v d=true→(eT v).length≤10000000000→H7 v=true∧1≤(eT v).length
  | ⟨k,n,t,ns,is⟩,d,h,hl=>by
    have hL:=N4 is true
    have hO:=N5 ns is true
    cases gw.1 h with
    | name _ _ hd hk=>rcases hk with rfl|rfl|rfl <;> exact ⟨rfl,by decide⟩
    | num _ _ hd hn =>
      refine ⟨rfl,?_⟩
      have:=SP ⟨4,n, [], [], []⟩ (by rw[gw]; exact .num n 1 (by omega) hn)
      cases hp:eT ⟨4,n, [], [], []⟩with
      | nil=>exact (this hp).elim
      | cons _ _=>simp
    | text _ _ hd ht =>
      have e:eT ⟨5,⟨0,0⟩,t, [], []⟩=Lq t:=by simp only[eT]; rfl
      have:=qtS_ge t
      rw[e]at hl ⊢
      exact ⟨vn.2 ⟨by simp,by simp,rfl,by simp only; omega,by simp⟩,by simp[Lq]⟩
    | arr _ _ hd hi =>
      have e:eT ⟨6,⟨0,0⟩, [], [],is⟩=91::(mf is true ++ [93]):=by simp only[eT]; rfl
      rw[e]at hl ⊢
      simp only[List.length_cons,List.length_append,List.length_nil]at hl
      obtain ⟨g1,g2⟩:=hL (d+1) hi (by omega)
      exact ⟨vn.2 ⟨by simp,by simp only; omega,g1,by simp,by simp⟩,by simp⟩
    | obj _ _ _ hd hlen hu hi =>
      have e:eT ⟨7,⟨0,0⟩, [],ns,is⟩=123::(lG ns is true ++ [125]):=by simp only[eT]; rfl
      rw[e]at hl ⊢
      simp only[List.length_cons,List.length_append,List.length_nil]at hl
      obtain ⟨g1,g2,g3⟩:=hO (d+1) hi hlen (by omega)
      exact ⟨vn.2 ⟨by simp only; omega,by simp only; omega,g1,by simp,g3⟩,by simp⟩
theorem N4:∀(l:List Json) (first:Bool) (d:Int),fX l d=true→(mf l first).length≤10000000000→Jw l=true∧l.length≤(mf l first).length
  | [],_,_,_,_=>⟨rfl,by simp⟩
  | x::l,first,d,h,hl=>by
    simp only[fX,Bool.and_eq_true]at h
    have h1:=Kw x d h.1
    have h2:=N4 l false d h.2
    simp only[mf,List.length_append]at hl ⊢
    obtain ⟨a1,a2⟩:=h1 (by omega)
    obtain ⟨b1,b2⟩:=h2 (by omega)
    refine ⟨by simp only[Jw,a1,b1]; rfl,?_⟩
    simp only[List.length_cons]
    omega
theorem N5:∀(ns:List aj) (l:List Json) (first:Bool) (d:Int),fX l d=true→ns.length=l.length→(lG ns l first).length≤10000000000→Jw l=true∧l.length≤(lG ns l first).length∧∀n∈ns,n.length≤10000000000
  | ns, [],_,_,_,hlen,_=>by
    obtain rfl:ns = []:=List.eq_nil_of_length_eq_zero hlen
    exact ⟨rfl,by simp,by simp⟩
  | [],x::l,_,_,_,hlen,_=>by cases hlen
  | n::ns,x::l,first,d,h,hlen,hl=>by
    simp only[fX,Bool.and_eq_true]at h
    have h1:=Kw x d h.1
    have h2:=N5 ns l false d h.2 (by simpa using hlen)
    simp only[lG,List.length_append,List.headD_cons,List.tail_cons,List.length_cons]at hl ⊢
    obtain ⟨a1,a2⟩:=h1 (by omega)
    obtain ⟨b1,b2,b3⟩:=h2 (by omega)
    have h3:=qtS_ge n
    refine ⟨by simp only[Jw,a1,b1]; rfl,by omega,fun m hm => ?_⟩
    rcases List.mem_cons.1 hm with rfl|hm
    · omega
    · exact b3 m hm
end

theorem XK (s:aj) (h:(so s).2.1=0):fU (so s).1 1=true∧H7 (so s).1=true∧(eT (so s).1).length≤10000000000:=by
  unfold so at h ⊢
  by_cases h0:(pV s).2.1=0
  rotate_left
  · rw[if_pos h0]at h
    exact (h0 h).elim
  rw[if_neg (by simpa using h0)]at h ⊢
  have hf:=UL s
  have hlen:=PI s
  cases hq:uS 40 1 (pV s).1 with
  | error b =>
    rw[hq]at h
    simp only at h
    have hb:b.1≠0:=by
      have hv:=SK (R:=Unit) 20002 (by omega) 40 1 (by omega) (by omega) (by omega) (pV s).1 (PK s h0) hlen
      rw[hq]at hv
      exact hv.1.2
    exact (hb h).elim
  | ok p =>
    rw[hq]at h
    obtain ⟨v,r⟩:=p
    simp only at h ⊢
    split
    · rename_i hk
      rw[if_pos hk]at h
      cases h
    · obtain ⟨g1,_⟩:=JC 40 1 _ _ (fun t ht=>(hf t ht).1) hq
      have g2:=Kv 40 1 _ _ (fun t ht=>(hf t ht).1) hq
      have g3:=tokL_le _ hf
      simp only at g1 g2 ⊢
      have g4:(eT v).length≤10000000000:=by
        have:(pV s).1.length*480070≤20002*480070:=Nat.mul_le_mul_right _ hlen
        omega
      exact ⟨g1,(Kw v 1 g1 g4).1,g4⟩
theorem SZ (s:aj) (h:(so s).2.1≠0):(so s).1=⟨0,⟨0,0⟩, [], [], []⟩:=by
  unfold so at h ⊢
  split
  · rfl
  · rename_i h0
    rw[if_neg h0]at h
    split
    · rfl
    · rename_i hv
      rw[hv]at h
      simp only at h ⊢
      split
      · rfl
      · rename_i hk
        rw[if_neg hk]at h
        exact (h rfl).elim
end Go.Proofs.YtmlkkgfenfdndaaGreatDoor

