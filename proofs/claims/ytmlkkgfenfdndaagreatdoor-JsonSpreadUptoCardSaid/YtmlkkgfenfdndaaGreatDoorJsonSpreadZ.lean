/-
  JsonSpread: for every input whose bulk is at most 1048576 the law returns true, and each argument reads behind the call as it read before; part 8 of 8 of the proof: an interpreter of the model's code over typed data, proved sound; the functions that the law reaches, printed as Lean functions and tied; the plain law. Own texts laid one behind the other.
-/
import Derived.Test.YtmlkkgfenfdndaaGreatDoorJsonSpreadB7
set_option linter.unusedSimpArgs false
set_option linter.unnecessarySimpa false
set_option linter.unusedVariables false
set_option linter.unusedSectionVars false
/-
  Functions of the program as pure Lean functions, and the ties; printed by wip/tools/emit.py.
-/
set_option maxRecDepth 100000
namespace Go.Proofs.YtmlkkgfenfdndaaGreatDoor
open Go Go.ay

/-! ### (*humpyard/json.parser).value -/
abbrev ax (R:Type):Type:=Int→(List Token)→Int→(Json→(List Token)→Int→Option R)→Option R
abbrev cn:List bO := [.leaf (.ptr 0 0), .leaf (.int .i64)]
abbrev cp:List aH := [.cells [.sl .token, .int .i64]]
noncomputable def bL {R:Type} (fn:ax R):bO.av cn→aH.av cp→(V→az→Option R)→Option R:=fun x y k=>fn x.2.1 y.1.1 y.1.2.1 (fun q0 q1 q2=>k (.agg [.int .i64 q0.kind, .int .i64 q0.num.aB, .int .i64 q0.num.exp, .str q0.text, .sl .str q0.names .no, .sl .json q0.items .no]) [.cells [.sl .token q1 .no, .int .i64 q2]])
/-! ### (*humpyard/json.parser).parts$1 -/
abbrev eZ (R:Type):Type:=Bool→Int→Int→Int→aj→(List aj)→Nat→Int→(List Json)→(List Token)→Int→(Bool→Int→Int→Int→aj→(List aj)→Nat→Int→(List Token)→Int→(List Json)→Option R)→(Bool→Int→Int→Int→aj→(List aj)→Nat→Int→(List Json)→(List Token)→Int→Option R)→(Bool→Int→Int→Int→aj→(List aj)→Nat→Int→(List Token)→Int→(List Json)→Option R)→(Bool→Int→Int→Int→aj→(List aj)→Nat→Int→(List Json)→(List Token)→Int→Option R)→Option R
abbrev lD:List bO := [.leaf (.ptr 0 0), .leaf (.ptr 1 0), .leaf (.ptr 2 0), .leaf (.ptr 3 0)]
abbrev lE:List aH := [.cells [.bool], .cells [.int .i64, .int .i64, .int .i64, .str, .NQ .str 4, .row 5], .cells [.ptr 6 0], .cells [.int .i64], .tok, .row .json, .cells [.sl .token, .int .i64]]
noncomputable def sL {R:Type} (fn:eZ R):bO.av lD→aH.av lE→(V→az→Option R)→Option R:=fun x y k=>fn y.1.1 y.2.1.1 y.2.1.2.1 y.2.1.2.2.1 y.2.1.2.2.2.1 y.2.1.2.2.2.2.1 y.2.1.2.2.2.2.2.1 y.2.2.2.1.1 y.2.2.2.2.2.1 y.2.2.2.2.2.2.1.1 y.2.2.2.2.2.2.1.2.1 (fun q0 q1 q2 q3 q4 q5 q6 q7 q8 q9 Ns=>k (.tuple []) [.cells [.bool q0], .cells [.int .i64 q1, .int .i64 q2, .int .i64 q3, .str q4, .sl .str q5 (.own 7), .row 8 q6], .cells [.ptr 6 0], .cells [.int .i64 q7], .dead, .dead, .cells [.sl .token q8 .no, .int .i64 q9], .tok, .row .json Ns]) (fun q0 q1 q2 q3 q4 q5 q6 q7 q8 q9 Ns=>k (.tuple []) [.cells [.bool q0], .cells [.int .i64 q1, .int .i64 q2, .int .i64 q3, .str q4, .sl .str q5 (.own 7), .row 5 q6], .cells [.ptr 6 0], .cells [.int .i64 q7], .dead, .row .json q8, .cells [.sl .token q9 .no, .int .i64 Ns], .tok]) (fun q0 q1 q2 q3 q4 q5 q6 q7 q8 q9 Ns=>k (.tuple []) [.cells [.bool q0], .cells [.int .i64 q1, .int .i64 q2, .int .i64 q3, .str q4, .sl .str q5 (.own 4), .row 7 q6], .cells [.ptr 6 0], .cells [.int .i64 q7], .tok, .dead, .cells [.sl .token q8 .no, .int .i64 q9], .row .json Ns]) (fun q0 q1 q2 q3 q4 q5 q6 q7 q8 q9 Ns=>k (.tuple []) [.cells [.bool q0], .cells [.int .i64 q1, .int .i64 q2, .int .i64 q3, .str q4, .sl .str q5 (.own 4), .row 5 q6], .cells [.ptr 6 0], .cells [.int .i64 q7], .tok, .row .json q8, .cells [.sl .token q9 .no, .int .i64 Ns]])
noncomputable def lF (R:Type) (cB:j7 R) (ae:ax R):Env R:=fun i=>match i with
  | 90=>some (false,(aA nv nA (vg cB) bg))
  | 42=>some (false,(aA cn cp (bL ae) bg))
  | _=>none
theorem Aw (R:Type) (ae:ax R) (bT:ay.Spec.Ok Tryz.prog 42 (aA cn cp (bL ae) bg)):p8 Tryz.prog (lF R cB ae):=by
  intro i b sp h
  unfold lF at h
  split at h
  · cases h; exact ⟨(Ca R _ (aO _)),fun _ h=>nomatch h⟩
  · cases h; exact ⟨bT,fun _ h=>nomatch h⟩
  · cases h

noncomputable def tC (R:Type):Nat→Option (Hint × cq R):=fun i=>match i with
  | _=>none

noncomputable def eC {R:Type} (cB:j7 R) (ae:ax R) (x1:Bool) (x2:Int) (x3:Int) (x4:Int) (x5:aj) (x6:List aj) (x7:Nat) (x8:Int) (x9:List Json) (yQ:List Token) (Jr:Int) (k0:Bool→Int→Int→Int→aj→(List aj)→Nat→Int→(List Token)→Int→(List Json)→Option R) (k1:Bool→Int→Int→Int→aj→(List aj)→Nat→Int→(List Json)→(List Token)→Int→Option R) (k2:Bool→Int→Int→Int→aj→(List aj)→Nat→Int→(List Token)→Int→(List Json)→Option R) (k3:Bool→Int→Int→Int→aj→(List aj)→Nat→Int→(List Json)→(List Token)→Int→Option R):Option R :=
  bif x1 then (cB x6 yQ Jr (fun Ak DB Dg=>cU (decide ((x6.length+1)*16≤140737488355328)) (bif (Dg==0)then (ae (IntKind.i64.wrap (x8+1)) DB Dg (fun GG Ha Jn=>cU (decide ((x9.length+1)*88≤140737488355328)) (cU (decide ((0:Int)≤(x7:Int))&&decide ((x7:Int)<(x9.length+1))) (cU (decide ((x7:Int).toNat<(x9++([(⟨0,⟨0,0⟩,([]:aj),([]:List aj),([]:List Json)⟩:Json)]:List Json)).length)) (k0 x1 x2 x3 x4 x5 (x6++([Ak]:List aj)) (x9.length+1) x8 Ha Jn ((x9++([(⟨0,⟨0,0⟩,([]:aj),([]:List aj),([]:List Json)⟩:Json)]:List Json)).set ((x7:Int).toNat) (⟨GG.kind,⟨GG.num.aB,GG.num.exp⟩,GG.text,GG.names,GG.items⟩:Json)))))))else (k1 x1 x2 x3 x4 x5 (x6++([Ak]:List aj)) x7 x8 x9 DB Dg))))else (bif (Jr==0)then (ae (IntKind.i64.wrap (x8+1)) yQ Jr (fun E2 KF LA=>cU (decide ((x9.length+1)*88≤140737488355328)) (cU (decide ((0:Int)≤(x7:Int))&&decide ((x7:Int)<(x9.length+1))) (cU (decide ((x7:Int).toNat<(x9++([(⟨0,⟨0,0⟩,([]:aj),([]:List aj),([]:List Json)⟩:Json)]:List Json)).length)) (k2 x1 x2 x3 x4 x5 x6 (x9.length+1) x8 KF LA ((x9++([(⟨0,⟨0,0⟩,([]:aj),([]:List aj),([]:List Json)⟩:Json)]:List Json)).set ((x7:Int).toNat) (⟨E2.kind,⟨E2.num.aB,E2.num.exp⟩,E2.text,E2.names,E2.items⟩:Json)))))))else (k3 x1 x2 x3 x4 x5 x6 x7 x8 x9 yQ Jr))
noncomputable def bf {R:Type} (ae:ax R):eZ R:=fun x1 x2 x3 x4 x5 x6 x7 x8 x9 yQ Jr k0 k1 k2 k3=>eC cB ae x1 x2 x3 x4 x5 x6 x7 x8 x9 yQ Jr k0 k1 k2 k3
theorem BA {R:Type} (cB:j7 R) (ae:ax R) (x1:Bool) (x2:Int) (x3:Int) (x4:Int) (x5:aj) (x6:List aj) (x7:Nat) (x8:Int) (x9:List Json) (yQ:List Token) (Jr:Int) (k:V→az→Option R):iQ (tt.mode [.json]) (lF R cB ae) (tC R) false Tryz.f89 (aK Tryz.f89) [.ptr 0 0, .ptr 1 0, .ptr 2 0, .ptr 3 0] [.cells [.bool x1], .cells [.int .i64 x2, .int .i64 x3, .int .i64 x4, .str x5, .sl .str x6 (.own 4), .row 5 x7], .cells [.ptr 6 0], .cells [.int .i64 x8], .tok, .row .json x9, .cells [.sl .token yQ .no, .int .i64 Jr]] k =
    eC cB ae x1 x2 x3 x4 x5 x6 x7 x8 x9 yQ Jr (fun q0 q1 q2 q3 q4 q5 q6 q7 q8 q9 Ns=>k (.tuple []) [.cells [.bool q0], .cells [.int .i64 q1, .int .i64 q2, .int .i64 q3, .str q4, .sl .str q5 (.own 7), .row 8 q6], .cells [.ptr 6 0], .cells [.int .i64 q7], .dead, .dead, .cells [.sl .token q8 .no, .int .i64 q9], .tok, .row .json Ns]) (fun q0 q1 q2 q3 q4 q5 q6 q7 q8 q9 Ns=>k (.tuple []) [.cells [.bool q0], .cells [.int .i64 q1, .int .i64 q2, .int .i64 q3, .str q4, .sl .str q5 (.own 7), .row 5 q6], .cells [.ptr 6 0], .cells [.int .i64 q7], .dead, .row .json q8, .cells [.sl .token q9 .no, .int .i64 Ns], .tok]) (fun q0 q1 q2 q3 q4 q5 q6 q7 q8 q9 Ns=>k (.tuple []) [.cells [.bool q0], .cells [.int .i64 q1, .int .i64 q2, .int .i64 q3, .str q4, .sl .str q5 (.own 4), .row 7 q6], .cells [.ptr 6 0], .cells [.int .i64 q7], .tok, .dead, .cells [.sl .token q8 .no, .int .i64 q9], .row .json Ns]) (fun q0 q1 q2 q3 q4 q5 q6 q7 q8 q9 Ns=>k (.tuple []) [.cells [.bool q0], .cells [.int .i64 q1, .int .i64 q2, .int .i64 q3, .str q4, .sl .str q5 (.own 4), .row 5 q6], .cells [.ptr 6 0], .cells [.int .i64 q7], .tok, .row .json q8, .cells [.sl .token q9 .no, .int .i64 Ns]]):=by kernel_rfl
theorem yR (R:Type) (ae:ax R):∀a∈aP (aK Tryz.f89),cO (tt.mode [.json]) (lF R cB ae) (tC R) 7 a:=by
  refine bH 0 (by kernel_rfl) fun i hi => ?_
  omega
theorem zZ (R:Type) (ae:ax R) (bT:ay.Spec.Ok Tryz.prog 42 (aA cn cp (bL ae) bg)) (other:ay.Spec R) (ho:ay.Spec.Ok Tryz.prog 89 other):ay.Spec.Ok Tryz.prog 89 (aA lD lE (sL (bf ae)) other) :=
  bw ho (bk (TT.mode [.json]) mixed (Aw R ae bT) (keep:=false) rfl rfl rfl rfl 7 (yR R ae)) fun (x:bO.av lD) (y:aH.av lE) k=>BA cB ae y.1.1 y.2.1.1 y.2.1.2.1 y.2.1.2.2.1 y.2.1.2.2.2.1 y.2.1.2.2.2.2.1 y.2.1.2.2.2.2.2.1 y.2.2.2.1.1 y.2.2.2.2.2.1 y.2.2.2.2.2.2.1.1 y.2.2.2.2.2.2.1.2.1 k

/-! ### (*humpyard/json.parser).list -/
abbrev j8 (R:Type):Type:=aj→(List Token)→Int→Bool→Int→Int→Int→aj→Int→((List Token)→Int→Bool→Int→Int→Int→aj→Int→Option R)→((List Token)→Int→Bool→Int→Int→Int→aj→(List aj)→Nat→Int→(List Json)→Option R)→Option R
abbrev nC:List bO := [.leaf (.ptr 0 0), .leaf (.str), .func 89 [] [.ptr 1 0, .ptr 2 0, .ptr 3 0, .ptr 4 0]]
abbrev nD:List aH := [.cells [.sl .token, .int .i64], .cells [.bool], .cells [.int .i64, .int .i64, .int .i64, .str, .cG, .cG], .cells [.ptr 0 0], .cells [.int .i64]]
noncomputable def vh {R:Type} (fn:j8 R):bO.av nC→aH.av nD→(V→az→Option R)→Option R:=fun x y k=>fn x.2.1 y.1.1 y.1.2.1 y.2.1.1 y.2.2.1.1 y.2.2.1.2.1 y.2.2.1.2.2.1 y.2.2.1.2.2.2.1 y.2.2.2.2.1.1 (fun q0 q1 q2 q3 q4 q5 q6 q7=>k (.tuple []) [.cells [.sl .token q0 .no, .int .i64 q1], .cells [.bool q2], .cells [.int .i64 q3, .int .i64 q4, .int .i64 q5, .str q6, .cG, .cG], .cells [.ptr 0 0], .cells [.int .i64 q7]]) (fun q0 q1 q2 q3 q4 q5 q6 q7 q8 q9 Ns=>k (.tuple []) [.cells [.sl .token q0 .no, .int .i64 q1], .cells [.bool q2], .cells [.int .i64 q3, .int .i64 q4, .int .i64 q5, .str q6, .sl .str q7 (.own 5), .row 6 q8], .cells [.ptr 0 0], .cells [.int .i64 q9], .tok, .row .json Ns])
abbrev fE (R:Type):Type:=Nat→aj→(List Token)→Int→Bool→Int→Int→Int→aj→(List aj)→Nat→Int→(List Json)→((List Token)→Int→Bool→Int→Int→Int→aj→(List aj)→Nat→Int→(List Json)→Option R)→Option R
noncomputable def gA (R:Type) (ak:bX R) (bf:eZ R) (aq:dn R):Env R:=fun i=>match i with
  | 43=>some (false,(aA gv gw (j4 ak) bg))
  | 89=>some (false,(aA lD lE (sL bf) bg))
  | 122=>some (false,(aA kH kI (pM aq) bg))
  | _=>none
theorem Cz (R:Type) (ae:ax R) (bT:ay.Spec.Ok Tryz.prog 42 (aA cn cp (bL ae) bg)):p8 Tryz.prog (gA R ak (bf ae) aq):=by
  intro i b sp h
  unfold gA at h
  split at h
  · cases h; exact ⟨(lz R _ (aO _)),fun _ h=>nomatch h⟩
  · cases h; exact ⟨(zZ R ae bT _ (aO _)),fun _ h=>nomatch h⟩
  · cases h; exact ⟨(tB R _ (aO _)),fun _ h=>nomatch h⟩
  · cases h

noncomputable def nU {R:Type} (ak:bX R) (bf:eZ R) (aq:dn R) (fH:aj→(List Token)→Int→Bool→Int→Int→Int→aj→(List aj)→Nat→Int→(List Json)→Option R) (Uc:aj) (UY:List Token) (pZ:Int) (tE:Bool) (nf:Int) (tF:Int) (CS:Int) (AM:aj) (x21:List aj) (x22:Nat) (x23:Int) (Xx:List Json) (e0:(List Token)→Int→Bool→Int→Int→Int→aj→(List aj)→Nat→Int→(List Json)→Option R):Option R :=
  bf tE nf tF CS AM x21 x22 x23 Xx UY pZ (fun Jo J2 Jp Jq Oi NR Qm NS y33 y34 y35=>bif (y34 != 0)then (e0 y33 y34 Jo J2 Jp Jq Oi NR Qm NS y35)else (aq Uc y33 y34 (fun y69 y70 y71=>bif y69 then (e0 y70 y71 Jo J2 Jp Jq Oi NR Qm NS y35)else (aq ([44]:aj) y70 y71 (fun y75 y76 y77=>bif (!y75)then (ak 40 y76 y77 (fun y78 y79=>e0 y78 y79 Jo J2 Jp Jq Oi NR Qm NS y35))else (fH Uc y76 y77 Jo J2 Jp Jq Oi NR Qm NS y35)))))) (fun Xs TV WI Xt Xu Xv O7 RY RZ Xw WJ=>bif (WJ != 0)then (e0 Xw WJ Xs TV WI Xt Xu Xv O7 RY RZ)else (aq Uc Xw WJ (fun y80 y81 y82=>bif y80 then (e0 y81 y82 Xs TV WI Xt Xu Xv O7 RY RZ)else (aq ([44]:aj) y81 y82 (fun y86 y87 y88=>bif (!y86)then (ak 40 y87 y88 (fun y89 y90=>e0 y89 y90 Xs TV WI Xt Xu Xv O7 RY RZ))else (fH Uc y87 y88 Xs TV WI Xt Xu Xv O7 RY RZ)))))) (fun Ol Xz ZA ZB ZC XA ZD ZE y55 WK WL=>bif (WK != 0)then (e0 y55 WK Ol Xz ZA ZB ZC XA ZD ZE WL)else (aq Uc y55 WK (fun y91 y92 y93=>bif y91 then (e0 y92 y93 Ol Xz ZA ZB ZC XA ZD ZE WL)else (aq ([44]:aj) y92 y93 (fun y97 y98 y99=>bif (!y97)then (ak 40 y98 y99 (fun y100 y101=>e0 y100 y101 Ol Xz ZA ZB ZC XA ZD ZE WL))else (fH Uc y98 y99 Ol Xz ZA ZB ZC XA ZD ZE WL)))))) (fun WM TW UW y61 y62 y63 y64 y65 y66 y67 y68=>bif (y68 != 0)then (e0 y67 y68 WM TW UW y61 y62 y63 y64 y65 y66)else (aq Uc y67 y68 (fun y102 y103 y104=>bif y102 then (e0 y103 y104 WM TW UW y61 y62 y63 y64 y65 y66)else (aq ([44]:aj) y103 y104 (fun y108 y109 y110=>bif (!y108)then (ak 40 y109 y110 (fun y111 y112=>e0 y111 y112 WM TW UW y61 y62 y63 y64 y65 y66))else (fH Uc y109 y110 WM TW UW y61 y62 y63 y64 y65 y66))))))
noncomputable def aL {R:Type} (ae:ax R):fE R
  | 0,_,_,_,_,_,_,_,_,_,_,_,_,_=>none
  | n+1,lP,lQ,my,tO,Er,Es,K6,K7,K8,K9,Ao,F9,e0=>nU ak (bf ae) aq (fun lP lQ my tO Er Es K6 K7 K8 K9 Ao F9=>aL ae n lP lQ my tO Er Es K6 K7 K8 K9 Ao F9 e0) lP lQ my tO Er Es K6 K7 K8 K9 Ao F9 e0
noncomputable def kZ:Hint := { live := [0,1,2],own := [],rows := [],cells := [(2,4, .str,false),(2,5, .json,true)],drop := [],out := [] }
abbrev dZ:Type:=aj × (List Token) × Int × Bool × Int × Int × Int × aj × (List aj) × Nat × Int × (List Json)
noncomputable def jR:dZ→St:=fun d=>⟨[.ptr 0 0, .str d.1, .func 89 [] [.ptr 1 0, .ptr 2 0, .ptr 3 0, .ptr 4 0], .undef, .undef, .undef, .undef, .undef, .undef, .undef, .undef, .undef, .undef, .undef, .undef, .undef, .undef, .undef, .undef, .undef, .undef, .undef, .undef, .undef, .undef, .undef], [.cells [.sl .token d.2.1 .no, .int .i64 d.2.2.1], .cells [.bool d.2.2.2.1], .cells [.int .i64 d.2.2.2.2.1, .int .i64 d.2.2.2.2.2.1, .int .i64 d.2.2.2.2.2.2.1, .str d.2.2.2.2.2.2.2.1, .sl .str d.2.2.2.2.2.2.2.2.1 (.own 5), .row 6 d.2.2.2.2.2.2.2.2.2.1], .cells [.ptr 0 0], .cells [.int .i64 d.2.2.2.2.2.2.2.2.2.2.1], .tok, .row .json d.2.2.2.2.2.2.2.2.2.2.2]⟩
noncomputable def nJ {R:Type} (K:Ex→St→Option R) (q0:List Token) (q1:Int) (q2:Bool) (q3:Int) (q4:Int) (q5:Int) (q6:aj) (q7:List aj) (q8:Nat) (q9:Int) (Ns:List Json):Option R:=K (.ret) ⟨[.undef, .undef, .undef, .undef, .undef, .undef, .undef, .undef, .undef, .undef, .undef, .undef, .undef, .undef, .undef, .undef, .undef, .undef, .undef, .undef, .undef, .undef, .undef, .undef, .undef, .undef], [.cells [.sl .token q0 .no, .int .i64 q1], .cells [.bool q2], .cells [.int .i64 q3, .int .i64 q4, .int .i64 q5, .str q6, .sl .str q7 (.own 5), .row 6 q8], .cells [.ptr 0 0], .cells [.int .i64 q9], .tok, .row .json Ns]⟩
noncomputable def nV {R:Type} (ak:bX R) (bf:eZ R) (aq:dn R) (K:Ex→St→Option R) (rc:dZ→Option R) (d:dZ):Option R:=nU ak bf aq (fun z0 z1 z2 z3 z4 z5 z6 z7 z8 z9 Qo vU=>rc (z0,z1,z2,z3,z4,z5,z6,z7,z8,z9,Qo,vU)) d.1 d.2.1 d.2.2.1 d.2.2.2.1 d.2.2.2.2.1 d.2.2.2.2.2.1 d.2.2.2.2.2.2.1 d.2.2.2.2.2.2.2.1 d.2.2.2.2.2.2.2.2.1 d.2.2.2.2.2.2.2.2.2.1 d.2.2.2.2.2.2.2.2.2.2.1 d.2.2.2.2.2.2.2.2.2.2.2 (nJ K)
noncomputable def gb {R:Type} (ae:ax R) (K:Ex→St→Option R) (n:Nat) (d:dZ):Option R:=aL ae n d.1 d.2.1 d.2.2.1 d.2.2.2.1 d.2.2.2.2.1 d.2.2.2.2.2.1 d.2.2.2.2.2.2.1 d.2.2.2.2.2.2.2.1 d.2.2.2.2.2.2.2.2.1 d.2.2.2.2.2.2.2.2.2.1 d.2.2.2.2.2.2.2.2.2.2.1 d.2.2.2.2.2.2.2.2.2.2.2 (nJ K)
abbrev ef:List bO := [.leaf (.ptr 0 0), .leaf (.str), .func 89 [] [.ptr 1 0, .ptr 2 0, .ptr 3 0, .ptr 4 0], .leaf (.undef), .leaf (.undef), .leaf (.undef), .leaf (.undef), .leaf (.undef), .leaf (.undef), .leaf (.undef), .leaf (.undef), .leaf (.undef), .leaf (.undef), .leaf (.undef), .leaf (.undef), .leaf (.undef), .leaf (.undef), .leaf (.undef), .leaf (.undef), .leaf (.undef), .leaf (.undef), .leaf (.undef), .leaf (.undef), .leaf (.undef), .leaf (.undef), .leaf (.undef)]
abbrev eg:List aH := [.cells [.sl .token, .int .i64], .cells [.bool], .cells [.int .i64, .int .i64, .int .i64, .str, .NQ .str 5, .row 6], .cells [.ptr 0 0], .cells [.int .i64], .tok, .row .json]
noncomputable def nW (x:bO.av ef) (y:aH.av eg):Nat:=(List.length x.2.1+List.length y.1.1+Int.natAbs y.1.2.1+Int.natAbs y.2.2.1.1+Int.natAbs y.2.2.1.2.1+Int.natAbs y.2.2.1.2.2.1+List.length y.2.2.1.2.2.2.1+List.length y.2.2.1.2.2.2.2.1+Int.natAbs y.2.2.2.2.1.1+List.length y.2.2.2.2.2.2.1+64)
noncomputable def nX (x:bO.av ef) (y:aH.av eg):dZ:=(x.2.1,y.1.1,y.1.2.1,y.2.1.1,y.2.2.1.1,y.2.2.1.2.1,y.2.2.1.2.2.1,y.2.2.1.2.2.2.1,y.2.2.1.2.2.2.2.1,y.2.2.1.2.2.2.2.2.1,y.2.2.2.2.1.1,y.2.2.2.2.2.2.1)
noncomputable def nK {R:Type} (L:fE R):bO.av ef→aH.av eg→(Ex→St→Option R)→Option R:=fun x y K=>L (nW x y) x.2.1 y.1.1 y.1.2.1 y.2.1.1 y.2.2.1.1 y.2.2.1.2.1 y.2.2.1.2.2.1 y.2.2.1.2.2.2.1 y.2.2.1.2.2.2.2.1 y.2.2.1.2.2.2.2.2.1 y.2.2.2.2.1.1 y.2.2.2.2.2.2.1 (nJ K)
noncomputable def kJ (R:Type) (aL:fE R):Nat→Option (Hint × cq R):=fun i=>match i with
  | 1=>some (kZ,(gq ef eg (nK aL) qx))
  | _=>none

theorem yS {R:Type} (ak:bX R) (bf:eZ R) (aq:dn R) (aL:fE R) (K:Ex→St→Option R) (rc:St→Option R) (d:dZ):roundOf (tt.mode [.json]) (gA R ak bf aq) (kJ R aL) 5 ((aP (aK Tryz.f88)).getD 0 .skip) kZ (jR d) rc K=nV ak bf aq K (fun d=>rc (jR d)) d:=by kernel_rfl
theorem xJ {R:Type} (ae:ax R) (K:Ex→St→Option R) (n:Nat) (d:dZ):gb ae K (n+1) d=nV ak (bf ae) aq K (gb ae K n) d:=by kernel_rfl
theorem xK {R:Type} (ae:ax R) (K:Ex→St→Option R) (d:dZ):gb ae K 0 d=none:=by kernel_rfl
theorem yT (x:bO.av ef) (y:aH.av eg):(⟨bO.cQ ef x,aH.cQ eg y⟩:St)=jR (nX x y):=by kernel_rfl
theorem yU {R:Type} (ae:ax R) (x:bO.av ef) (y:aH.av eg) (K:Ex→St→Option R):nK (aL ae) x y K=gb ae K (nW x y) (nX x y):=by kernel_rfl
theorem Ax {R:Type} (ae:ax R) (other:cq R) (ho:o0 (tt.mode [.json]) (gA R ak (bf ae) aq) (kJ R (aL ae)) 5 ((aP (aK Tryz.f88)).getD 0 .skip) kZ other):o0 (tt.mode [.json]) (gA R ak (bf ae) aq) (kJ R (aL ae)) 5 ((aP (aK Tryz.f88)).getD 0 .skip) kZ (gq ef eg (nK (aL ae)) other) :=
  gL (A:=gb ae) ho (kr jR (nV ak (bf ae) aq) (gb ae) (xK ae) (yS ak (bf ae) aq (aL ae)) (xJ ae)) nW nX yT (yU ae)

noncomputable def wC {R:Type} (aq:dn R) (aL:fE R) (x1:aj) (x2:List Token) (x3:Int) (x4:Bool) (x5:Int) (x6:Int) (x7:Int) (x8:aj) (x9:Int) (k0:(List Token)→Int→Bool→Int→Int→Int→aj→Int→Option R) (k1:(List Token)→Int→Bool→Int→Int→Int→aj→(List aj)→Nat→Int→(List Json)→Option R):Option R :=
  aq x1 x2 x3 (fun yA wE Ak=>bif yA then (k0 wE Ak x4 x5 x6 x7 x8 x9)else (aL (List.length x1+List.length wE+Int.natAbs Ak+Int.natAbs x5+Int.natAbs x6+Int.natAbs x7+List.length x8+List.length ([]:List aj)+Int.natAbs x9+List.length ([]:List Json)+64) x1 wE Ak x4 x5 x6 x7 x8 ([]:List aj) 0 x9 ([]:List Json) (fun y113 y114 y115 y116 y117 y118 y119 y120 y121 y122 y123=>k1 y113 y114 y115 y116 y117 y118 y119 y120 y121 y122 y123)))
noncomputable def bJ {R:Type} (ae:ax R):j8 R:=fun x1 x2 x3 x4 x5 x6 x7 x8 x9 k0 k1=>wC aq (aL ae) x1 x2 x3 x4 x5 x6 x7 x8 x9 k0 k1
theorem Db {R:Type} (ak:bX R) (bf:eZ R) (aq:dn R) (aL:fE R) (x1:aj) (x2:List Token) (x3:Int) (x4:Bool) (x5:Int) (x6:Int) (x7:Int) (x8:aj) (x9:Int) (k:V→az→Option R):iQ (tt.mode [.json]) (gA R ak bf aq) (kJ R aL) false Tryz.f88 (aK Tryz.f88) [.ptr 0 0, .str x1, .func 89 [] [.ptr 1 0, .ptr 2 0, .ptr 3 0, .ptr 4 0]] [.cells [.sl .token x2 .no, .int .i64 x3], .cells [.bool x4], .cells [.int .i64 x5, .int .i64 x6, .int .i64 x7, .str x8, .cG, .cG], .cells [.ptr 0 0], .cells [.int .i64 x9]] k =
    wC aq aL x1 x2 x3 x4 x5 x6 x7 x8 x9 (fun q0 q1 q2 q3 q4 q5 q6 q7=>k (.tuple []) [.cells [.sl .token q0 .no, .int .i64 q1], .cells [.bool q2], .cells [.int .i64 q3, .int .i64 q4, .int .i64 q5, .str q6, .cG, .cG], .cells [.ptr 0 0], .cells [.int .i64 q7]]) (fun q0 q1 q2 q3 q4 q5 q6 q7 q8 q9 Ns=>k (.tuple []) [.cells [.sl .token q0 .no, .int .i64 q1], .cells [.bool q2], .cells [.int .i64 q3, .int .i64 q4, .int .i64 q5, .str q6, .sl .str q7 (.own 5), .row 6 q8], .cells [.ptr 0 0], .cells [.int .i64 q9], .tok, .row .json Ns]):=by kernel_rfl
theorem BB (R:Type) (ae:ax R):∀a∈aP (aK Tryz.f88),cO (tt.mode [.json]) (gA R ak (bf ae) aq) (kJ R (aL ae)) 5 a:=by
  refine bH 1 (by kernel_rfl) fun i hi => ?_
  match i,hi with
  | 0,_=>exact fG (by kernel_rfl) (Ax ae _ jc)
  | n+1,hi=>omega
theorem Cb (R:Type) (ae:ax R) (bT:ay.Spec.Ok Tryz.prog 42 (aA cn cp (bL ae) bg)) (other:ay.Spec R) (ho:ay.Spec.Ok Tryz.prog 88 other):ay.Spec.Ok Tryz.prog 88 (aA nC nD (vh (bJ ae)) other) :=
  bw ho (bk (TT.mode [.json]) mixed (Cz R ae bT) (keep:=false) rfl rfl rfl rfl 5 (BB R ae)) fun (x:bO.av nC) (y:aH.av nD) k=>Db ak (bf ae) aq (aL ae) x.2.1 y.1.1 y.1.2.1 y.2.1.1 y.2.2.1.1 y.2.2.1.2.1 y.2.2.1.2.2.1 y.2.2.1.2.2.2.1 y.2.2.2.2.1.1 k

/-! ### (*humpyard/json.parser).parts -/
abbrev jE (R:Type):Type:=Bool→Int→(List Token)→Int→(Json→(List Token)→Int→Option R)→Option R
abbrev mN:List bO := [.leaf (.ptr 0 0), .leaf (.bool), .leaf (.int .i64)]
abbrev mO:List aH := [.cells [.sl .token, .int .i64]]
noncomputable def uh {R:Type} (fn:jE R):bO.av mN→aH.av mO→(V→az→Option R)→Option R:=fun x y k=>fn x.2.1 x.2.2.1 y.1.1 y.1.2.1 (fun q0 q1 q2=>k (.agg [.int .i64 q0.kind, .int .i64 q0.num.aB, .int .i64 q0.num.exp, .str q0.text, .sl .str q0.names .no, .sl .json q0.items .no]) [.cells [.sl .token q1 .no, .int .i64 q2]])
noncomputable def mP (R:Type) (bJ:j8 R):Env R:=fun i=>match i with
  | 88=>some (false,(aA nC nD (vh bJ) bg))
  | _=>none
theorem Cc (R:Type) (ae:ax R) (bT:ay.Spec.Ok Tryz.prog 42 (aA cn cp (bL ae) bg)):p8 Tryz.prog (mP R (bJ ae)):=by
  intro i b sp h
  unfold mP at h
  split at h
  · cases h; exact ⟨(Cb R ae bT _ (aO _)),fun _ h=>nomatch h⟩
  · cases h

noncomputable def vi (R:Type):Nat→Option (Hint × cq R):=fun i=>match i with
  | _=>none

noncomputable def vj {R:Type} (bJ:j8 R) (x1:Bool) (x2:Int) (x3:List Token) (x4:Int) (k0:Json→(List Token)→Int→Option R):Option R :=
  bif x1 then (bJ ([125]:aj) x3 x4 x1 7 0 0 ([]:aj) x2 (fun y5 y6 y7 y8 y9 yA wE Ak=>k0 (⟨y8,⟨y9,yA⟩,wE,([]:List aj),([]:List Json)⟩:Json) y5 y6) (fun DB Dg GG Ha Jn E2 KF LA BZ Ql RU=>k0 (⟨Ha,⟨Jn,E2⟩,KF,LA,RU⟩:Json) DB Dg))else (bJ ([93]:aj) x3 x4 x1 6 0 0 ([]:aj) x2 (fun y24 Jo J2 Jp Jq Oi NR Qm=>k0 (⟨Jp,⟨Jq,Oi⟩,NR,([]:List aj),([]:List Json)⟩:Json) y24 Jo) (fun NS y33 y34 y35 Xs TV WI Xt Xu Xv O7=>k0 (⟨y35,⟨Xs,TV⟩,WI,Xt,O7⟩:Json) NS y33))
noncomputable def cu {R:Type} (ae:ax R):jE R:=fun x1 x2 x3 x4 k0=>vj (bJ ae) x1 x2 x3 x4 k0
theorem CA {R:Type} (bJ:j8 R) (x1:Bool) (x2:Int) (x3:List Token) (x4:Int) (k:V→az→Option R):iQ (tt.mode [.json]) (mP R bJ) (vi R) false Tryz.f64 (aK Tryz.f64) [.ptr 0 0, .bool x1, .int .i64 x2] [.cells [.sl .token x3 .no, .int .i64 x4]] k =
    vj bJ x1 x2 x3 x4 (fun q0 q1 q2=>k (.agg [.int .i64 q0.kind, .int .i64 q0.num.aB, .int .i64 q0.num.exp, .str q0.text, .sl .str q0.names .no, .sl .json q0.items .no]) [.cells [.sl .token q1 .no, .int .i64 q2]]):=by kernel_rfl
theorem Ay (R:Type) (ae:ax R):∀a∈aP (aK Tryz.f64),cO (tt.mode [.json]) (mP R (bJ ae)) (vi R) 1 a:=by
  refine bH 0 (by kernel_rfl) fun i hi => ?_
  omega
theorem BC (R:Type) (ae:ax R) (bT:ay.Spec.Ok Tryz.prog 42 (aA cn cp (bL ae) bg)) (other:ay.Spec R) (ho:ay.Spec.Ok Tryz.prog 64 other):ay.Spec.Ok Tryz.prog 64 (aA mN mO (uh (cu ae)) other) :=
  bw ho (bk (TT.mode [.json]) mixed (Cc R ae bT) (keep:=false) rfl rfl rfl rfl 1 (Ay R ae)) fun (x:bO.av mN) (y:aH.av mO) k=>CA (bJ ae) x.2.1 x.2.2.1 y.1.1 y.1.2.1 k

noncomputable def mQ (R:Type) (ak:bX R) (cu:jE R):Env R:=fun i=>match i with
  | 43=>some (false,(aA gv gw (j4 ak) bg))
  | 64=>some (false,(aA mN mO (uh cu) bg))
  | _=>none
theorem Cd (R:Type) (ae:ax R) (bT:ay.Spec.Ok Tryz.prog 42 (aA cn cp (bL ae) bg)):p8 Tryz.prog (mQ R ak (cu ae)):=by
  intro i b sp h
  unfold mQ at h
  split at h
  · cases h; exact ⟨(lz R _ (aO _)),fun _ h=>nomatch h⟩
  · cases h; exact ⟨(BC R ae bT _ (aO _)),fun _ h=>nomatch h⟩
  · cases h

noncomputable def vk (R:Type):Nat→Option (Hint × cq R):=fun i=>match i with
  | _=>none

noncomputable def vl {R:Type} (ak:bX R) (cu:jE R) (x1:Int) (x2:List Token) (x3:Int) (k0:Json→(List Token)→Int→Option R):Option R :=
  cU (decide ((0:Int)<x2.length)) (let j20:=fun (z4:Bool)=>let j19:=fun (z9:List Token) (Qo:Int)=>bif (Qo != 0)then (k0 (⟨0,⟨0,0⟩,([]:aj),([]:List aj),([]:List Json)⟩:Json) z9 Qo)else (cU (decide ((1:Int)≤z9.length)) (let j18:=bif ((x2.getD 0 (Ty.ck .token)).kind==3)then (k0 (⟨4,⟨(x2.getD 0 (Ty.ck .token)).num.aB,(x2.getD 0 (Ty.ck .token)).num.exp⟩,([]:aj),([]:List aj),([]:List Json)⟩:Json) (z9.drop 1) Qo)else (k0 (⟨5,⟨0,0⟩,(x2.getD 0 (Ty.ck .token)).text,([]:List aj),([]:List Json)⟩:Json) (z9.drop 1) Qo); let j17:=fun (vU:Bool)=>bif vU then (bif ((x2.getD 0 (Ty.ck .token)).kind==1)then (cu ((x2.getD 0 (Ty.ck .token)).text==([123]:aj)) x1 (z9.drop 1) Qo (fun Ak DB Dg=>k0 (⟨Ak.kind,⟨Ak.num.aB,Ak.num.exp⟩,Ak.text,Ak.names,Ak.items⟩:Json) DB Dg))else (j18))else (let j16:=fun (z15:Bool)=>bif z15 then (bif ((x2.getD 0 (Ty.ck .token)).kind==4)then (k0 (⟨((nP .str (.int .i64) ((x2.getD 0 (Ty.ck .token)).text) ([(([110,117,108,108]:aj),1),(([102,97,108,115,101]:aj),2),(([116,114,117,101]:aj),3)]:List (aj × Int))):Int),⟨0,0⟩,([]:aj),([]:List aj),([]:List Json)⟩:Json) (z9.drop 1) Qo)else (j18))else (j18); bif ((x2.getD 0 (Ty.ck .token)).text==([110,117,108,108]:aj))then (j16 ((x2.getD 0 (Ty.ck .token)).text==([110,117,108,108]:aj)))else (bif ((x2.getD 0 (Ty.ck .token)).text==([102,97,108,115,101]:aj))then (j16 ((x2.getD 0 (Ty.ck .token)).text==([102,97,108,115,101]:aj)))else (j16 ((x2.getD 0 (Ty.ck .token)).text==([116,114,117,101]:aj))))); bif ((x2.getD 0 (Ty.ck .token)).text==([91]:aj))then (j17 ((x2.getD 0 (Ty.ck .token)).text==([91]:aj)))else (j17 ((x2.getD 0 (Ty.ck .token)).text==([123]:aj))))); bif (!z4)then (ak 40 x2 x3 (fun y5 y6=>j19 y5 y6))else (bif (decide (x1>(16:Int)))then (ak 41 x2 x3 (fun y7 y8=>j19 y7 y8))else (j19 x2 x3)); bif ((x2.getD 0 (Ty.ck .token)).kind==2)then (j20 true)else (bif ((x2.getD 0 (Ty.ck .token)).kind==3)then (j20 true)else (bif ((x2.getD 0 (Ty.ck .token)).kind==4)then (j20 true)else (bif ((x2.getD 0 (Ty.ck .token)).kind==1)then (bif ((x2.getD 0 (Ty.ck .token)).text==([91]:aj))then (j20 true)else (j20 ((x2.getD 0 (Ty.ck .token)).text==([123]:aj))))else (j20 false)))))
noncomputable def pN {R:Type} (ae:ax R):ax R:=fun x1 x2 x3 k0=>vl ak (cu ae) x1 x2 x3 k0
theorem CB {R:Type} (ak:bX R) (cu:jE R) (x1:Int) (x2:List Token) (x3:Int) (k:V→az→Option R):iQ (tt.mode [.json]) (mQ R ak cu) (vk R) false Tryz.f42 (aK Tryz.f42) [.ptr 0 0, .int .i64 x1] [.cells [.sl .token x2 .no, .int .i64 x3]] k =
    vl ak cu x1 x2 x3 (fun q0 q1 q2=>k (.agg [.int .i64 q0.kind, .int .i64 q0.num.aB, .int .i64 q0.num.exp, .str q0.text, .sl .str q0.names .no, .sl .json q0.items .no]) [.cells [.sl .token q1 .no, .int .i64 q2]]):=by kernel_rfl
theorem Az (R:Type) (ae:ax R):∀a∈aP (aK Tryz.f42),cO (tt.mode [.json]) (mQ R ak (cu ae)) (vk R) 1 a:=by
  refine bH 0 (by kernel_rfl) fun i hi => ?_
  omega
theorem AA (R:Type) (ae:ax R) (bT:ay.Spec.Ok Tryz.prog 42 (aA cn cp (bL ae) bg)) (other:ay.Spec R) (ho:ay.Spec.Ok Tryz.prog 42 other):ay.Spec.Ok Tryz.prog 42 (aA cn cp (bL (pN ae)) other) :=
  bw ho (bk (TT.mode [.json]) mixed (Cd R ae bT) (keep:=false) rfl rfl rfl rfl 1 (Az R ae)) fun (x:bO.av cn) (y:aH.av cp) k=>CB ak (cu ae) x.2.1 y.1.1 y.1.2.1 k
noncomputable def bB {R:Type}:Nat→ax R
  | 0,_,_,_,_=>none
  | n+1,lP,lQ,my,k0'=>pN (bB n) lP lQ my k0'
theorem KI {R:Type} (n:Nat):bB (R:=R) (n+1)=pN (bB n):=by kernel_rfl
theorem BD (R:Type):∀n,ay.Spec.Ok Tryz.prog 42 (aA cn cp (bL (bB (R:=R) n)) bg) :=
  wk (run:=fun n=>bL (bB (R:=R) n)) (fun x y k=>by kernel_rfl) fun n hyp=>AA R (bB n) hyp bg (aO _)
noncomputable def cF {R:Type}:ax R:=fun x1 x2 x3 k0=>bB 40 x1 x2 x3 k0
theorem BE (R:Type):bL (R:=R) cF=fun x y k=>bL (bB 40) x y k:=by kernel_rfl
theorem BF (R:Type) (other:ay.Spec R) (ho:ay.Spec.Ok Tryz.prog 42 other):ay.Spec.Ok Tryz.prog 42 (aA cn cp (bL cF) other) :=
  BX (Dx (run:=fun n=>bL (bB (R:=R) n)) (fun x y=>40) ho (BD R)) (BE R)

end Go.Proofs.YtmlkkgfenfdndaaGreatDoor

/-
  Functions of the program as pure Lean functions, and the ties; printed by wip/tools/emit.py.
-/
set_option maxRecDepth 100000
namespace Go.Proofs.YtmlkkgfenfdndaaGreatDoor
open Go Go.ay

/-! ### humpyard/json.Parse -/
abbrev mR (R:Type):Type:=aj→(Json→Int→Int→Option R)→Option R
abbrev xL:List bO := [.leaf (.str)]
abbrev xM:List aH := []
noncomputable def Dc {R:Type} (fn:mR R):bO.av xL→aH.av xM→(V→az→Option R)→Option R:=fun x y k=>fn x.1 (fun q0 q1 q2=>k (.tuple [.agg [.int .i64 q0.kind, .int .i64 q0.num.aB, .int .i64 q0.num.exp, .str q0.text, .sl .str q0.names .no, .sl .json q0.items .no], .int .i64 q1, .int .i64 q2]) [])
noncomputable def BG (R:Type) (ak:bX R) (cF:ax R) (dm:mM R):Env R:=fun i=>match i with
  | 43=>some (false,(aA gv gw (j4 ak) bg))
  | 42=>some (false,(aA cn cp (bL cF) bg))
  | 25=>some (true,(aA xA xB (C7 dm) bg))
  | _=>none
theorem Nt (R:Type):p8 Tryz.prog (BG R ak cF dm):=by
  intro i b sp h
  unfold BG at h
  split at h
  · cases h; exact ⟨(lz R _ (aO _)),fun _ h=>nomatch h⟩
  · cases h; exact ⟨(BF R _ (aO _)),fun _ h=>nomatch h⟩
  · cases h; exact ⟨(EU R _ (aO _)),fun h=>nomatch h⟩
  · cases h

noncomputable def Jh (R:Type):Nat→Option (Hint × cq R):=fun i=>match i with
  | _=>none

noncomputable def BH {R:Type} (ak:bX R) (cF:ax R) (dm:mM R) (x1:aj) (k0:Json→Int→Int→Option R):Option R :=
  dm x1 (fun y2 y3 y4=>bif (y3 != 0)then (k0 (⟨0,⟨0,0⟩,([]:aj),([]:List aj),([]:List Json)⟩:Json) y3 y4)else (cF 1 y2 0 (fun y5 y6 y7=>let j12:=fun (Qo:List Token) (vU:Int)=>bif (vU != 0)then (cU (decide ((0:Int)<Qo.length)) (k0 (⟨0,⟨0,0⟩,([]:aj),([]:List aj),([]:List Json)⟩:Json) vU ((Qo.getD 0 (Ty.ck .token)).at_)))else (k0 (⟨y5.kind,⟨y5.num.aB,y5.num.exp⟩,y5.text,y5.names,y5.items⟩:Json) 0 0); cU (decide ((0:Int)<y6.length)) (bif ((y6.getD 0 (Ty.ck .token)).kind != 5)then (ak 40 y6 y7 (fun y8 y9=>j12 y8 y9))else (j12 y6 y7)))))
noncomputable def dp {R:Type}:mR R:=fun x1 k0=>BH ak cF dm x1 k0
theorem Ov {R:Type} (ak:bX R) (cF:ax R) (dm:mM R) (x1:aj) (k:V→az→Option R):iQ tt (BG R ak cF dm) (Jh R) false Tryz.f20 (aK Tryz.f20) [.str x1] [] k =
    BH ak cF dm x1 (fun q0 q1 q2=>k (.tuple [.agg [.int .i64 q0.kind, .int .i64 q0.num.aB, .int .i64 q0.num.exp, .str q0.text, .sl .str q0.names .no, .sl .json q0.items .no], .int .i64 q1, .int .i64 q2]) []):=by kernel_rfl
theorem Kh (R:Type):∀a∈aP (aK Tryz.f20),cO tt (BG R ak cF dm) (Jh R) 0 a:=by
  refine bH 0 (by kernel_rfl) fun i hi => ?_
  omega
theorem EW (R:Type) (other:ay.Spec R) (ho:ay.Spec.Ok Tryz.prog 20 other):ay.Spec.Ok Tryz.prog 20 (aA xL xM (Dc dp) other) :=
  bw ho (bk TT mixed (Nt R) (keep:=false) rfl rfl rfl rfl 0 (Kh R)) fun (x:bO.av xL) (y:aH.av xM) k=>Ov ak cF dm x.1 k

/-! ### slices.Equal[[]string,string] -/
abbrev gX (R:Type):Type:=(List aj)→(List aj)→(Bool→Option R)→Option R
abbrev k6:List bO := [.leaf (.sl .str), .leaf (.sl .str)]
abbrev k7:List aH := []
noncomputable def sd {R:Type} (fn:gX R):bO.av k6→aH.av k7→(V→az→Option R)→Option R:=fun x y k=>fn x.1 x.2.1 (fun q0=>k (.bool q0) [])
abbrev eK (R:Type):Type:=Nat→(List aj)→(List aj)→Int→Int→(Option R)→(Bool→Option R)→Option R
noncomputable def fa (R:Type):Env R:=fun i=>match i with
  | _=>none
theorem Aa (R:Type):p8 Tryz.prog (fa R):=by
  intro i b sp h
  unfold fa at h
  split at h
  · cases h

noncomputable def iO {R:Type} (fH:(List aj)→(List aj)→Int→Int→Option R) (x3:List aj) (x4:List aj) (x5:Int) (x6:Int) (e0:Option R) (e1:Bool→Option R):Option R :=
  bif (decide (x6<x5))then (cU (decide ((0:Int)≤x6)&&decide (x6<x3.length)) (cU (decide ((0:Int)≤x6)&&decide (x6<x4.length)) (bif (!((x3.getD x6.toNat (Ty.ck .str))==(x4.getD x6.toNat (Ty.ck .str))))then (e1 false)else (fH x3 x4 x5 (IntKind.i64.wrap (x6+1))))))else (e0)
noncomputable def aT {R:Type}:eK R
  | 0,_,_,_,_,_,_=>none
  | n+1,lP,lQ,my,tO,e0,e1=>iO (fun lP lQ my tO=>aT n lP lQ my tO e0 e1) lP lQ my tO e0 e1
noncomputable def iP:Hint := { live := [0,1,12,13],own := [],rows := [],cells := [],drop := [],out := [4] }
abbrev dv:Type:=(List aj) × (List aj) × Int × Int
noncomputable def hJ:dv→St:=fun d=>⟨[.sl .str d.1 .no, .sl .str d.2.1 .no, .undef, .undef, .undef, .undef, .undef, .undef, .undef, .undef, .undef, .undef, .int .i64 d.2.2.1, .int .i64 d.2.2.2, .undef, .undef, .undef, .undef, .undef, .undef, .undef, .undef, .undef, .undef, .undef, .undef], []⟩
noncomputable def lG {R:Type} (K:Ex→St→Option R):Option R:=K (.exit 0) ⟨[.undef, .undef, .undef, .undef, .undef, .undef, .undef, .undef, .undef, .undef, .undef, .undef, .undef, .undef, .undef, .undef, .undef, .undef, .undef, .undef, .undef, .undef, .undef, .undef, .undef, .undef], []⟩
noncomputable def lH {R:Type} (K:Ex→St→Option R) (q0:Bool):Option R:=K (.ret) ⟨[.undef, .undef, .undef, .undef, .bool q0, .undef, .undef, .undef, .undef, .undef, .undef, .undef, .undef, .undef, .undef, .undef, .undef, .undef, .undef, .undef, .undef, .undef, .undef, .undef, .undef, .undef], []⟩
noncomputable def l8 {R:Type} (K:Ex→St→Option R) (rc:dv→Option R) (d:dv):Option R:=iO (fun z0 z1 z2 z3=>rc (z0,z1,z2,z3)) d.1 d.2.1 d.2.2.1 d.2.2.2 (lG K) (lH K)
noncomputable def eV {R:Type} (K:Ex→St→Option R) (n:Nat) (d:dv):Option R:=aT n d.1 d.2.1 d.2.2.1 d.2.2.2 (lG K) (lH K)
abbrev dw:List bO := [.leaf (.sl .str), .leaf (.sl .str), .leaf (.undef), .leaf (.undef), .leaf (.undef), .leaf (.undef), .leaf (.undef), .leaf (.undef), .leaf (.undef), .leaf (.undef), .leaf (.undef), .leaf (.undef), .leaf (.int .i64), .leaf (.int .i64), .leaf (.undef), .leaf (.undef), .leaf (.undef), .leaf (.undef), .leaf (.undef), .leaf (.undef), .leaf (.undef), .leaf (.undef), .leaf (.undef), .leaf (.undef), .leaf (.undef), .leaf (.undef)]
abbrev dx:List aH := []
noncomputable def l9 (x:bO.av dw) (y:aH.av dx):Nat:=(List.length x.1+List.length x.2.1+Int.natAbs x.2.2.2.2.2.2.2.2.2.2.2.2.1+Int.natAbs x.2.2.2.2.2.2.2.2.2.2.2.2.2.1+64)
noncomputable def ma (x:bO.av dw) (y:aH.av dx):dv:=(x.1,x.2.1,x.2.2.2.2.2.2.2.2.2.2.2.2.1,x.2.2.2.2.2.2.2.2.2.2.2.2.2.1)
noncomputable def lI {R:Type} (L:eK R):bO.av dw→aH.av dx→(Ex→St→Option R)→Option R:=fun x y K=>L (l9 x y) x.1 x.2.1 x.2.2.2.2.2.2.2.2.2.2.2.2.1 x.2.2.2.2.2.2.2.2.2.2.2.2.2.1 (lG K) (lH K)
noncomputable def iE (R:Type) (aT:eK R):Nat→Option (Hint × cq R):=fun i=>match i with
  | 4=>some (iP,(gq dw dx (lI aT) qx))
  | _=>none

theorem wc {R:Type} (aT:eK R) (K:Ex→St→Option R) (rc:St→Option R) (d:dv):roundOf tt (fa R) (iE R aT) 0 ((aP (aK Tryz.f44)).getD 0 .skip) iP (hJ d) rc K=l8 K (fun d=>rc (hJ d)) d:=by kernel_rfl
theorem uN {R:Type} (K:Ex→St→Option R) (n:Nat) (d:dv):eV K (n+1) d=l8 K (eV K n) d:=by kernel_rfl
theorem uO {R:Type} (K:Ex→St→Option R) (d:dv):eV K 0 d=none:=by kernel_rfl
theorem wg (x:bO.av dw) (y:aH.av dx):(⟨bO.cQ dw x,aH.cQ dx y⟩:St)=hJ (ma x y):=by kernel_rfl
theorem wh {R:Type} (x:bO.av dw) (y:aH.av dx) (K:Ex→St→Option R):lI (aT) x y K=eV K (l9 x y) (ma x y):=by kernel_rfl
theorem xN {R:Type} (other:cq R) (ho:o0 tt (fa R) (iE R aT) 0 ((aP (aK Tryz.f44)).getD 0 .skip) iP other):o0 tt (fa R) (iE R aT) 0 ((aP (aK Tryz.f44)).getD 0 .skip) iP (gq dw dx (lI (aT)) other) :=
  gL (A:=eV) ho (kr hJ (l8) (eV) (uO) (wc aT) (uN)) l9 ma wg (wh)

noncomputable def sM {R:Type} (aT:eK R) (x1:List aj) (x2:List aj) (k0:Bool→Option R):Option R :=
  bif ((x1.length:Int) != (x2.length:Int))then (k0 false)else (aT (List.length x1+List.length x2+Int.natAbs (x1.length:Int)+Int.natAbs 0+64) x1 x2 (x1.length:Int) 0 (k0 true) (fun y7=>k0 y7))
noncomputable def cb {R:Type}:gX R:=fun x1 x2 k0=>sM aT x1 x2 k0
theorem AB {R:Type} (aT:eK R) (x1:List aj) (x2:List aj) (k:V→az→Option R):iQ tt (fa R) (iE R aT) false Tryz.f44 (aK Tryz.f44) [.sl .str x1 .no, .sl .str x2 .no] [] k =
    sM aT x1 x2 (fun q0=>k (.bool q0) []):=by kernel_rfl
theorem yd (R:Type):∀a∈aP (aK Tryz.f44),cO tt (fa R) (iE R aT) 0 a:=by
  refine bH 1 (by kernel_rfl) fun i hi => ?_
  match i,hi with
  | 0,_=>exact fG (by kernel_rfl) (xN _ jc)
  | n+1,hi=>omega
theorem yV (R:Type) (other:ay.Spec R) (ho:ay.Spec.Ok Tryz.prog 44 other):ay.Spec.Ok Tryz.prog 44 (aA k6 k7 (sd cb) other) :=
  bw ho (bk TT mixed (Aa R) (keep:=false) rfl rfl rfl rfl 0 (yd R)) fun (x:bO.av k6) (y:aH.av k7) k=>AB aT x.1 x.2.1 k

/-! ### humpyard/json.Same -/
abbrev cA (R:Type):Type:=Json→Json→(Bool→Option R)→Option R
abbrev lV:List bO := [.agg [.int .i64, .int .i64, .int .i64, .str, .sl .str, .sl .json], .agg [.int .i64, .int .i64, .int .i64, .str, .sl .str, .sl .json]]
abbrev lW:List aH := []
noncomputable def iF {R:Type} (fn:cA R):bO.av lV→aH.av lW→(V→az→Option R)→Option R:=fun x y k=>fn (⟨x.1.1,⟨x.1.2.1,x.1.2.2.1⟩,x.1.2.2.2.1,x.1.2.2.2.2.1,x.1.2.2.2.2.2.1⟩:Json) (⟨x.2.1.1,⟨x.2.1.2.1,x.2.1.2.2.1⟩,x.2.1.2.2.2.1,x.2.1.2.2.2.2.1,x.2.1.2.2.2.2.2.1⟩:Json) (fun q0=>k (.bool q0) [])
/-! ### slices.EqualFunc[[]humpyard/api.Json,[]humpyard/api.Json,humpyard/api.Json,humpyard/api.Json] -/
abbrev dT (R:Type):Type:=(List Json)→(List Json)→(Bool→Option R)→Option R
abbrev fp:List bO := [.leaf (.sl .json), .leaf (.sl .json), .leaf (.fn 21)]
abbrev fq:List aH := []
noncomputable def lX {R:Type} (fn:dT R):bO.av fp→aH.av fq→(V→az→Option R)→Option R:=fun x y k=>fn x.1 x.2.1 (fun q0=>k (.bool q0) [])
abbrev cR (R:Type):Type:=Nat→(List Json)→(List Json)→Int→Int→(Option R)→(Bool→Option R)→Option R
noncomputable def cP (R:Type) (aF:cA R):Env R:=fun i=>match i with
  | 21=>some (true,(aA lV lW (iF aF) bg))
  | _=>none
theorem rL (R:Type) (aF:cA R) (pO:ay.Spec.Ok Tryz.prog 21 (aA lV lW (iF aF) bg)):p8 Tryz.prog (cP R aF):=by
  intro i b sp h
  unfold cP at h
  split at h
  · cases h; exact ⟨pO,fun h=>nomatch h⟩
  · cases h

noncomputable def cW {R:Type} (aF:cA R) (fH:(List Json)→(List Json)→Int→Int→Option R) (x3:List Json) (x4:List Json) (x5:Int) (x6:Int) (e0:Option R) (e1:Bool→Option R):Option R :=
  bif (decide (x6<x5))then (cU (decide ((0:Int)≤x6)&&decide (x6<x4.length)) (cU (decide ((0:Int)≤x6)&&decide (x6<x3.length)) (aF (⟨(x4.getD x6.toNat (Ty.ck .json)).kind,⟨(x4.getD x6.toNat (Ty.ck .json)).num.aB,(x4.getD x6.toNat (Ty.ck .json)).num.exp⟩,(x4.getD x6.toNat (Ty.ck .json)).text,(x4.getD x6.toNat (Ty.ck .json)).names,(x4.getD x6.toNat (Ty.ck .json)).items⟩:Json) (⟨(x3.getD x6.toNat (Ty.ck .json)).kind,⟨(x3.getD x6.toNat (Ty.ck .json)).num.aB,(x3.getD x6.toNat (Ty.ck .json)).num.exp⟩,(x3.getD x6.toNat (Ty.ck .json)).text,(x3.getD x6.toNat (Ty.ck .json)).names,(x3.getD x6.toNat (Ty.ck .json)).items⟩:Json) (fun y7=>bif (!y7)then (e1 false)else (fH x3 x4 x5 (IntKind.i64.wrap (x6+1)))))))else (e0)
noncomputable def aw {R:Type} (aF:cA R):cR R
  | 0,_,_,_,_,_,_=>none
  | n+1,lP,lQ,my,tO,e0,e1=>cW aF (fun lP lQ my tO=>aw aF n lP lQ my tO e0 e1) lP lQ my tO e0 e1
noncomputable def eM:Hint := { live := [1,2,15,16,17],own := [],rows := [],cells := [],drop := [],out := [6] }
abbrev bU:Type:=(List Json) × (List Json) × Int × Int
noncomputable def ez:bU→St:=fun d=>⟨[.undef, .sl .json d.1 .no, .func 21 [] [], .undef, .undef, .undef, .undef, .undef, .undef, .undef, .undef, .undef, .undef, .undef, .undef, .sl .json d.2.1 .no, .int .i64 d.2.2.1, .int .i64 d.2.2.2, .undef, .undef, .undef, .undef, .undef, .undef, .undef, .undef, .undef, .undef, .undef, .undef, .undef, .undef], []⟩
noncomputable def gi {R:Type} (K:Ex→St→Option R):Option R:=K (.exit 0) ⟨[.undef, .undef, .undef, .undef, .undef, .undef, .undef, .undef, .undef, .undef, .undef, .undef, .undef, .undef, .undef, .undef, .undef, .undef, .undef, .undef, .undef, .undef, .undef, .undef, .undef, .undef, .undef, .undef, .undef, .undef, .undef, .undef], []⟩
noncomputable def gk {R:Type} (K:Ex→St→Option R) (q0:Bool):Option R:=K (.ret) ⟨[.undef, .undef, .undef, .undef, .undef, .undef, .bool q0, .undef, .undef, .undef, .undef, .undef, .undef, .undef, .undef, .undef, .undef, .undef, .undef, .undef, .undef, .undef, .undef, .undef, .undef, .undef, .undef, .undef, .undef, .undef, .undef, .undef], []⟩
noncomputable def gB {R:Type} (aF:cA R) (K:Ex→St→Option R) (rc:bU→Option R) (d:bU):Option R:=cW aF (fun z0 z1 z2 z3=>rc (z0,z1,z2,z3)) d.1 d.2.1 d.2.2.1 d.2.2.2 (gi K) (gk K)
noncomputable def cX {R:Type} (aF:cA R) (K:Ex→St→Option R) (n:Nat) (d:bU):Option R:=aw aF n d.1 d.2.1 d.2.2.1 d.2.2.2 (gi K) (gk K)
abbrev bV:List bO := [.leaf (.undef), .leaf (.sl .json), .leaf (.fn 21), .leaf (.undef), .leaf (.undef), .leaf (.undef), .leaf (.undef), .leaf (.undef), .leaf (.undef), .leaf (.undef), .leaf (.undef), .leaf (.undef), .leaf (.undef), .leaf (.undef), .leaf (.undef), .leaf (.sl .json), .leaf (.int .i64), .leaf (.int .i64), .leaf (.undef), .leaf (.undef), .leaf (.undef), .leaf (.undef), .leaf (.undef), .leaf (.undef), .leaf (.undef), .leaf (.undef), .leaf (.undef), .leaf (.undef), .leaf (.undef), .leaf (.undef), .leaf (.undef), .leaf (.undef)]
abbrev bW:List aH := []
noncomputable def gC (x:bO.av bV) (y:aH.av bW):Nat:=(List.length x.2.1+List.length x.2.2.2.2.2.2.2.2.2.2.2.2.2.2.2.1+Int.natAbs x.2.2.2.2.2.2.2.2.2.2.2.2.2.2.2.2.1+Int.natAbs x.2.2.2.2.2.2.2.2.2.2.2.2.2.2.2.2.2.1+64)
noncomputable def gD (x:bO.av bV) (y:aH.av bW):bU:=(x.2.1,x.2.2.2.2.2.2.2.2.2.2.2.2.2.2.2.1,x.2.2.2.2.2.2.2.2.2.2.2.2.2.2.2.2.1,x.2.2.2.2.2.2.2.2.2.2.2.2.2.2.2.2.2.1)
noncomputable def gl {R:Type} (L:cR R):bO.av bV→aH.av bW→(Ex→St→Option R)→Option R:=fun x y K=>L (gC x y) x.2.1 x.2.2.2.2.2.2.2.2.2.2.2.2.2.2.2.1 x.2.2.2.2.2.2.2.2.2.2.2.2.2.2.2.2.1 x.2.2.2.2.2.2.2.2.2.2.2.2.2.2.2.2.2.1 (gi K) (gk K)
noncomputable def dV (R:Type) (aw:cR R):Nat→Option (Hint × cq R):=fun i=>match i with
  | 4=>some (eM,(gq bV bW (gl aw) qx))
  | _=>none

theorem pq {R:Type} (aF:cA R) (aw:cR R) (K:Ex→St→Option R) (rc:St→Option R) (d:bU):roundOf tt (cP R aF) (dV R aw) 0 ((aP (aK Tryz.f45)).getD 0 .skip) eM (ez d) rc K=gB aF K (fun d=>rc (ez d)) d:=by kernel_rfl
theorem oF {R:Type} (aF:cA R) (K:Ex→St→Option R) (n:Nat) (d:bU):cX aF K (n+1) d=gB aF K (cX aF K n) d:=by kernel_rfl
theorem oG {R:Type} (aF:cA R) (K:Ex→St→Option R) (d:bU):cX aF K 0 d=none:=by kernel_rfl
theorem pr (x:bO.av bV) (y:aH.av bW):(⟨bO.cQ bV x,aH.cQ bW y⟩:St)=ez (gD x y):=by kernel_rfl
theorem pw {R:Type} (aF:cA R) (x:bO.av bV) (y:aH.av bW) (K:Ex→St→Option R):gl (aw aF) x y K=cX aF K (gC x y) (gD x y):=by kernel_rfl
theorem p6 {R:Type} (aF:cA R) (other:cq R) (ho:o0 tt (cP R aF) (dV R (aw aF)) 0 ((aP (aK Tryz.f45)).getD 0 .skip) eM other):o0 tt (cP R aF) (dV R (aw aF)) 0 ((aP (aK Tryz.f45)).getD 0 .skip) eM (gq bV bW (gl (aw aF)) other) :=
  gL (A:=cX aF) ho (kr ez (gB aF) (cX aF) (oG aF) (pq aF (aw aF)) (oF aF)) gC gD pr (pw aF)

noncomputable def mi {R:Type} (aw:cR R) (x1:List Json) (x2:List Json) (k0:Bool→Option R):Option R :=
  bif ((x1.length:Int) != (x2.length:Int))then (k0 false)else (aw (List.length x2+List.length x1+Int.natAbs (x1.length:Int)+Int.natAbs 0+64) x2 x1 (x1.length:Int) 0 (k0 true) (fun y8=>k0 y8))
noncomputable def bh {R:Type} (aF:cA R):dT R:=fun x1 x2 k0=>mi (aw aF) x1 x2 k0
theorem se {R:Type} (aF:cA R) (aw:cR R) (x1:List Json) (x2:List Json) (k:V→az→Option R):iQ tt (cP R aF) (dV R aw) false Tryz.f45 (aK Tryz.f45) [.sl .json x1 .no, .sl .json x2 .no, .func 21 [] []] [] k =
    mi aw x1 x2 (fun q0=>k (.bool q0) []):=by kernel_rfl
theorem qL (R:Type) (aF:cA R):∀a∈aP (aK Tryz.f45),cO tt (cP R aF) (dV R (aw aF)) 0 a:=by
  refine bH 1 (by kernel_rfl) fun i hi => ?_
  match i,hi with
  | 0,_=>exact fG (by kernel_rfl) (p6 aF _ jc)
  | n+1,hi=>omega
theorem qU (R:Type) (aF:cA R) (pO:ay.Spec.Ok Tryz.prog 21 (aA lV lW (iF aF) bg)) (other:ay.Spec R) (ho:ay.Spec.Ok Tryz.prog 45 other):ay.Spec.Ok Tryz.prog 45 (aA fp fq (lX (bh aF)) other) :=
  bw ho (bk TT mixed (rL R aF pO) (keep:=false) rfl rfl rfl rfl 0 (qL R aF)) fun (x:bO.av fp) (y:aH.av fq) k=>se aF (aw aF) x.1 x.2.1 k

noncomputable def CT (R:Type) (bh:dT R) (cb:gX R):Env R:=fun i=>match i with
  | 45=>some (true,(aA fp fq (lX bh) bg))
  | 44=>some (true,(aA k6 k7 (sd cb) bg))
  | _=>none
theorem Ow (R:Type) (aF:cA R) (pO:ay.Spec.Ok Tryz.prog 21 (aA lV lW (iF aF) bg)):p8 Tryz.prog (CT R (bh aF) cb):=by
  intro i b sp h
  unfold CT at h
  split at h
  · cases h; exact ⟨(qU R aF pO _ (aO _)),fun h=>nomatch h⟩
  · cases h; exact ⟨(yV R _ (aO _)),fun h=>nomatch h⟩
  · cases h

noncomputable def KJ (R:Type):Nat→Option (Hint × cq R):=fun i=>match i with
  | _=>none

noncomputable def CU {R:Type} (bh:dT R) (cb:gX R) (x1:Json) (x2:Json) (k0:Bool→Option R):Option R :=
  bif (x1.kind==x2.kind)then (bif (x1.num.aB==x2.num.aB&&(x1.num.exp==x2.num.exp&&true))then (bif (x1.text==x2.text)then (cb x1.names x2.names (fun y3=>bif y3 then (bh x1.items x2.items (fun y4=>k0 y4))else (k0 false)))else (k0 false))else (k0 false))else (k0 false)
noncomputable def Ga {R:Type} (aF:cA R):cA R:=fun x1 x2 k0=>CU (bh aF) cb x1 x2 k0
theorem Qx {R:Type} (bh:dT R) (cb:gX R) (x1:Json) (x2:Json) (k:V→az→Option R):iQ tt (CT R bh cb) (KJ R) false Tryz.f21 (aK Tryz.f21) [.agg [.int .i64 x1.kind, .int .i64 x1.num.aB, .int .i64 x1.num.exp, .str x1.text, .sl .str x1.names .no, .sl .json x1.items .no], .agg [.int .i64 x2.kind, .int .i64 x2.num.aB, .int .i64 x2.num.exp, .str x2.text, .sl .str x2.names .no, .sl .json x2.items .no]] [] k =
    CU bh cb x1 x2 (fun q0=>k (.bool q0) []):=by kernel_rfl
theorem Lf (R:Type) (aF:cA R):∀a∈aP (aK Tryz.f21),cO tt (CT R (bh aF) cb) (KJ R) 0 a:=by
  refine bH 0 (by kernel_rfl) fun i hi => ?_
  omega
theorem Lg (R:Type) (aF:cA R) (pO:ay.Spec.Ok Tryz.prog 21 (aA lV lW (iF aF) bg)) (other:ay.Spec R) (ho:ay.Spec.Ok Tryz.prog 21 other):ay.Spec.Ok Tryz.prog 21 (aA lV lW (iF (Ga aF)) other) :=
  bw ho (bk TT mixed (Ow R aF pO) (keep:=false) rfl rfl rfl rfl 0 (Lf R aF)) fun (x:bO.av lV) (y:aH.av lW) k=>Qx (bh aF) cb (⟨x.1.1,⟨x.1.2.1,x.1.2.2.1⟩,x.1.2.2.2.1,x.1.2.2.2.2.1,x.1.2.2.2.2.2.1⟩:Json) (⟨x.2.1.1,⟨x.2.1.2.1,x.2.1.2.2.1⟩,x.2.1.2.2.2.1,x.2.1.2.2.2.2.1,x.2.1.2.2.2.2.2.1⟩:Json) k
noncomputable def kK {R:Type}:Nat→cA R
  | 0,_,_,_=>none
  | n+1,lP,lQ,k0'=>Ga (kK n) lP lQ k0'
theorem W6 {R:Type} (n:Nat):kK (R:=R) (n+1)=Ga (kK n):=by kernel_rfl
theorem Nu (R:Type):∀n,ay.Spec.Ok Tryz.prog 21 (aA lV lW (iF (kK (R:=R) n)) bg) :=
  wk (run:=fun n=>iF (kK (R:=R) n)) (fun x y k=>by kernel_rfl) fun n hyp=>Lg R (kK n) hyp bg (aO _)
noncomputable def dR {R:Type}:cA R:=fun x1 x2 k0=>kK (Json.depth x1+2) x1 x2 k0
theorem Nv (R:Type):iF (R:=R) dR=fun x y k=>iF (kK (Json.depth (⟨x.1.1,⟨x.1.2.1,x.1.2.2.1⟩,x.1.2.2.2.1,x.1.2.2.2.2.1,x.1.2.2.2.2.2.1⟩:Json)+2)) x y k:=by kernel_rfl
theorem Gb (R:Type) (other:ay.Spec R) (ho:ay.Spec.Ok Tryz.prog 21 other):ay.Spec.Ok Tryz.prog 21 (aA lV lW (iF dR) other) :=
  BX (Dx (run:=fun n=>iF (kK (R:=R) n)) (fun x y=>(Json.depth (⟨x.1.1,⟨x.1.2.1,x.1.2.2.1⟩,x.1.2.2.2.1,x.1.2.2.2.2.1,x.1.2.2.2.2.2.1⟩:Json)+2)) ho (Nu R)) (Nv R)

/-! ### humpyard/humpyardlaw04.awake -/
abbrev qM (R:Type):Type:=(Bool→Option R)→Option R
abbrev zu:List bO := []
abbrev zw:List aH := []
noncomputable def Gc {R:Type} (fn:qM R):bO.av zu→aH.av zw→(V→az→Option R)→Option R:=fun x y k=>fn (fun q0=>k (.bool q0) [])
noncomputable def zx (R:Type) (dp:mR R) (dA:mB R) (eB:n0 R) (dR:cA R):Env R:=fun i=>match i with
  | 20=>some (true,(aA xL xM (Dc dp) bg))
  | 17=>some (true,(aA xo xp (C4 dA) bg))
  | 32=>some (true,(aA xd xe (C3 eB) bg))
  | 21=>some (true,(aA lV lW (iF dR) bg))
  | _=>none
theorem Lh (R:Type):p8 Tryz.prog (zx R dp dA eB dR):=by
  intro i b sp h
  unfold zx at h
  split at h
  · cases h; exact ⟨(EW R _ (aO _)),fun h=>nomatch h⟩
  · cases h; exact ⟨(ER R _ (aO _)),fun h=>nomatch h⟩
  · cases h; exact ⟨(EO R _ (aO _)),fun h=>nomatch h⟩
  · cases h; exact ⟨(Gb R _ (aO _)),fun h=>nomatch h⟩
  · cases h

noncomputable def Hh (R:Type):Nat→Option (Hint × cq R):=fun i=>match i with
  | _=>none

noncomputable def Hi {R:Type} (dp:mR R) (dA:mB R) (eB:n0 R) (dR:cA R) (k0:Bool→Option R):Option R :=
  dp ([32,123,34,97,34,32,58,32,91,49,46,53,48,44,32,110,117,108,108,93,125,32]:aj) (fun y1 y2 y3=>dp ([123,34,97,34,58,49,44,34,97,34]:aj) (fun y4 y5 y6=>bif (y2==0)then (bif (y3==0)then (dA (⟨y1.kind,⟨y1.num.aB,y1.num.exp⟩,y1.text,y1.names,y1.items⟩:Json) (fun y7=>bif (y7==([123,34,97,34,58,91,49,46,53,44,110,117,108,108,93,125]:aj))then (bif (y5==42)then (bif (y6==7)then (eB (⟨y1.kind,⟨y1.num.aB,y1.num.exp⟩,y1.text,y1.names,y1.items⟩:Json) (fun y8=>bif y8 then (dR (⟨y1.kind,⟨y1.num.aB,y1.num.exp⟩,y1.text,y1.names,y1.items⟩:Json) (⟨y1.kind,⟨y1.num.aB,y1.num.exp⟩,y1.text,y1.names,y1.items⟩:Json) (fun y9=>bif y9 then (dR (⟨y1.kind,⟨y1.num.aB,y1.num.exp⟩,y1.text,y1.names,y1.items⟩:Json) (⟨0,⟨0,0⟩,([]:aj),([]:List aj),([]:List Json)⟩:Json) (fun yA=>k0 (!yA)))else (k0 false)))else (k0 false)))else (k0 false))else (k0 false))else (k0 false)))else (k0 false))else (k0 false)))
noncomputable def fY {R:Type}:qM R:=fun  k0=>Hi dp dA eB dR  k0
theorem Nw {R:Type} (dp:mR R) (dA:mB R) (eB:n0 R) (dR:cA R) (k:V→az→Option R):iQ tt (zx R dp dA eB dR) (Hh R) false Tryz.f30 (aK Tryz.f30) [] [] k =
    Hi dp dA eB dR  (fun q0=>k (.bool q0) []):=by kernel_rfl
theorem Ji (R:Type):∀a∈aP (aK Tryz.f30),cO tt (zx R dp dA eB dR) (Hh R) 0 a:=by
  refine bH 0 (by kernel_rfl) fun i hi => ?_
  omega
theorem Ki (R:Type) (other:ay.Spec R) (ho:ay.Spec.Ok Tryz.prog 30 other):ay.Spec.Ok Tryz.prog 30 (aA zu zw (Gc fY) other) :=
  bw ho (bk TT mixed (Lh R) (keep:=false) rfl rfl rfl rfl 0 (Ji R)) fun (x:bO.av zu) (y:aH.av zw) k=>Nw dp dA eB dR  k

end Go.Proofs.YtmlkkgfenfdndaaGreatDoor

set_option maxRecDepth 100000
namespace Go.Proofs.YtmlkkgfenfdndaaGreatDoor
open Go Go.ay Go.Lib

abbrev Sx:=Int × List Token
def mu (x:aj):List Token→Option (List Token)
  | t::r=>if t.kind=1∧t.text=x then some r else none
  | []=>none
def Hj (ns:List aj):List Token→Except Sx (aj × List Token)
  | t::r =>
    if t.kind≠2 then .error (40,t::r)else if ns.contains t.text then .error (42,t::r)else
      match mu [58] r with
      | some r' => .ok (t.text,r')
      | none => .error (40,r)
  | [] => .error (0, [])
def AQ (f:List Token→Except Sx (Json × List Token)) (obj:Bool) (ns:List aj) (is:List Json) (ts:List Token):Except Sx ((List aj × List Json) × List Token) :=
  match obj with
  | true =>
    (match Hj ns ts with
     | .error b => .error b
     | .ok (nm,ts1)=>(match f ts1 with | .error b => .error b | .ok (v,Li) => .ok ((ns ++ [nm],is ++ [v]),Li)))
  | false=>(match f ts with | .error b => .error b | .ok (v,Li) => .ok ((ns,is ++ [v]),Li))
def Ab (f:List Token→Except Sx (Json × List Token)) (cl:aj) (obj:Bool):Nat→List aj→List Json→List Token→Except Sx ((List aj × List Json) × List Token)
  | 0,_,_,ts => .error (0,ts)
  | m+1,ns,is,ts =>
    match AQ f obj ns is ts with
    | .error b => .error b
    | .ok (p,Li) =>
      match mu cl Li with
      | some r => .ok (p,r)
      | none =>
        match mu [44] Li with
        | some r=>Ab f cl obj m p.1 p.2 r
        | none => .error (40,Li)
def Dd (t:aj):Bool:=t==po||(t==ly||t==sJ)
def Qy:List (aj × Int) := [(po,1),(ly,2),(sJ,3)]
def Ce (t:aj):Bool:=t == [91]||t == [123]
def tD (t:Token):Bool:=t.kind==2||(t.kind==3||(t.kind==4||(t.kind==1&&Ce t.text)))
def ye:Nat→Int→List Token→Except Sx (Json × List Token)
  | 0,_,ts => .error (0,ts)
  | _+1,_, [] => .error (0, [])
  | n+1,d,t::r =>
    if tD t=false then .error (40,t::r)else
    if d>16 then .error (41,t::r)else
    if t.kind=1∧Ce t.text=true then
      let obj:=t.text == [123]
      let k:Int:=if obj then 7 else 6
      let cl:aj:=if obj then [125]else [93]
      match mu cl r with
      | some r' => .ok (⟨k,⟨0,0⟩, [], [], []⟩,r')
      | none =>
        match Ab (ye n (d+1)) cl obj (r.length+1) [] [] r with
        | .error b => .error b
        | .ok (p,r') => .ok (⟨k,⟨0,0⟩, [],p.1,p.2⟩,r')
    else if t.kind=4∧Dd t.text=true then .ok (⟨nP .str (.int .i64) t.text Qy,⟨0,0⟩, [], [], []⟩,r)
    else if t.kind=3 then .ok (⟨4,t.num, [], [], []⟩,r)
    else .ok (⟨5,⟨0,0⟩,t.text, [], []⟩,r)

theorem BO {x:aj} {ts r:List Token} (h:mu x ts=some r):r.length<ts.length:=by
  cases ts with
  | nil=>cases h
  | cons t ts =>
    simp only[mu]at h
    split at h
    · cases h; simp
    · cases h
theorem Pk {ns:List aj} {ts:List Token} {p:aj × List Token} (h:Hj ns ts = .ok p):p.2.length<ts.length:=by
  cases ts with
  | nil=>cases h
  | cons t ts =>
    simp only[Hj]at h
    split at h
    · cases h
    · split at h
      · cases h
      · split at h
        · rename_i r hr
          have:=BO hr
          cases h
          simp; omega
        · cases h
theorem Kj {f:List Token→Except Sx (Json × List Token)} (hf:∀ts p,f ts = .ok p→p.2.length<ts.length) {obj:Bool} {ns:List aj} {is:List Json} {ts:List Token} {p:(List aj × List Json) × List Token} (h:AQ f obj ns is ts = .ok p) :
    p.2.length<ts.length:=by
  cases obj with
  | true =>
    simp only[AQ]at h
    split at h
    · cases h
    · rename_i nm ts1 hn
      have h1:=Pk hn
      split at h
      · cases h
      · rename_i v Li hv
        have h2:=hf _ _ hv
        cases h
        simp only at h1 h2 ⊢
        omega
  | false =>
    simp only[AQ]at h
    split at h
    · cases h
    · rename_i v Li hv
      have h2:=hf _ _ hv
      cases h
      exact h2
theorem Pl {f:List Token→Except Sx (Json × List Token)} (hf:∀ts p,f ts = .ok p→p.2.length<ts.length) {cl:aj} {obj:Bool}:∀(m:Nat) (ns:List aj) (is:List Json) (ts:List Token) (p:(List aj × List Json) × List Token),
    Ab f cl obj m ns is ts = .ok p→p.2.length<ts.length
  | 0,_,_,_,_,h=>by cases h
  | m+1,ns,is,ts,p,h=>by
    simp only[Ab]at h
    split at h
    · cases h
    · rename_i q Li hq
      have h1:=Kj hf hq
      split at h
      · rename_i r hr
        have h2:=BO hr
        cases h
        simp only at h1 h2 ⊢
        omega
      · split at h
        · rename_i r hr
          have h2:=BO hr
          have h3:=Pl hf m _ _ _ _ h
          simp only at h1 h2 h3 ⊢
          omega
        · cases h
theorem Sm:∀(n:Nat) (d:Int) (ts:List Token) (p:Json × List Token),ye n d ts = .ok p→p.2.length<ts.length
  | 0,_,_,_,h=>by cases h
  | _+1,_, [],_,h=>by cases h
  | n+1,d,t::r,p,h=>by
    simp only[ye]at h
    split at h
    · cases h
    split at h
    · cases h
    split at h
    · split at h
      · rename_i r' hr
        have:=BO hr
        cases h
        simp; omega
      · split at h
        · cases h
        · rename_i q r' hq
          have:=Pl (fun ts p=>Sm n (d+1) ts p) _ _ _ _ _ hq
          cases h
          simp only[List.length_cons]at this ⊢
          omega
    split at h
    · cases h; simp
    split at h
    · cases h; simp
    · cases h; simp

theorem Nx {f:List Token→Except Sx (Json × List Token)} (hf:∀ts p,f ts = .ok p→p.2.length<ts.length) {cl:aj} {obj:Bool}:∀(m m':Nat) (ns:List aj) (is:List Json) (ts:List Token),ts.length<m→ts.length<m' →
    Ab f cl obj m ns is ts=Ab f cl obj m' ns is ts
  | 0,_,_,_,_,h,_=>by omega
  | _+1,0,_,_,_,_,h=>by omega
  | m+1,m'+1,ns,is,ts,h,h'=>by
    simp only[Ab]
    cases hq:AQ f obj ns is ts with
    | error b=>rfl
    | ok q =>
      obtain ⟨p,Li⟩:=q
      have h1:=Kj hf hq
      simp only
      cases mu cl Li with
      | some r=>rfl
      | none =>
        simp only
        cases hr:mu [44] Li with
        | none=>rfl
        | some r =>
          have h2:=BO hr
          simp only at h1 h2 ⊢
          exact Nx hf m m' _ _ _ (by omega) (by omega)

def W7 {α:Type} (P:α→Prop) (Q:Sx→Prop):Except Sx α→Prop
  | .ok p=>P p
  | .error b=>Q b

def AD (ts:List Token):Prop:=∃e,ts.getLast? = some e∧e.kind=5
theorem AD.ne {ts:List Token} (h:AD ts):ts ≠ []:=by
  rintro rfl
  obtain ⟨e,h,_⟩:=h
  cases h
theorem AD.tail {t:Token} {r:List Token} (h:AD (t::r)) (ht:t.kind≠5):AD r:=by
  obtain ⟨e,h1,h2⟩:=h
  cases r with
  | nil =>
    simp at h1
    subst h1
    exact (ht h2).elim
  | cons u r=>exact ⟨e,by simpa [List.getLast?_cons_cons]using h1,h2⟩

theorem DS {x:aj} {ts r:List Token} (he:AD ts) (h:mu x ts=some r):AD r:=by
  cases ts with
  | nil=>cases h
  | cons t ts =>
    simp only[mu]at h
    split at h
    · rename_i hc
      cases h
      exact he.tail (by rw[hc.1]; decide)
    · cases h
theorem W8 {ns:List aj} {ts:List Token} (he:AD ts):W7 (fun p:aj × List Token=>AD p.2) (fun b=>AD b.2∧b.1≠0) (Hj ns ts):=by
  cases ts with
  | nil=>exact (he.ne rfl).elim
  | cons t ts =>
    simp only[Hj]
    by_cases hk:t.kind=2
    · rw[if_neg (by simp[hk])]
      have h1:=he.tail (by rw[hk]; decide)
      by_cases hc:ns.contains t.text=true
      · rw[if_pos hc]
        exact ⟨he,by show (_:Int)≠0; simp⟩
      · rw[if_neg hc]
        cases hr:mu [58] ts with
        | some r=>exact DS h1 hr
        | none=>exact ⟨h1,by show (_:Int)≠0; simp⟩
    · rw[if_pos hk]
      exact ⟨he,by show (_:Int)≠0; simp⟩

theorem zy {t:Token} {r:List Token}:decide ((0:Int)<((t::r).length:Int))=true:=by rw[decide_eq_true_eq,List.length_cons]; omega
theorem LD {t:Token} {r:List Token}:decide ((1:Int)≤((t::r).length:Int))=true:=by rw[decide_eq_true_eq,List.length_cons]; omega

theorem Gd {R:Type} (x:aj) {ts:List Token} (hn:ts ≠ []) (k:Bool→List Token→Int→Option R):aq x ts 0 k=match mu x ts with|some r=>k true r 0|none=>k false ts 0:=by
  cases ts with
  | nil=>exact (hn rfl).elim
  | cons t r =>
    have e0:aq x (t::r) 0 k=cU (decide ((0:Int)<((t::r).length:Int))) (bif (t.kind != 1)then (k false (t::r) 0)else (bif (!(t.text==x))then (k false (t::r) 0)else (cU (decide ((1:Int)≤((t::r).length:Int))) (k true r 0)))):=rfl
    rw[e0,aS zy]
    simp only[mu]
    by_cases h1:t.kind=1
    · by_cases h2:t.text=x
      · rw[if_pos ⟨h1,h2⟩]
        have e1:(t.kind != 1)=false:=by simp[h1]
        have e2:(!(t.text==x))=false:=by simp[h2]
        rw[e1,e2,aS LD]
        rfl
      · rw[if_neg (fun h=>h2 h.2)]
        have e1:(t.kind != 1)=false:=by simp[h1]
        have e2:(!(t.text==x))=true:=by simp[h2]
        rw[e1,e2]
        rfl
    · rw[if_neg (fun h=>h1 h.1)]
      have e1:(t.kind != 1)=true:=by simp[h1]
      rw[e1]
      rfl

theorem Ud {R:Type} (ns:List aj) (x:aj) (hl:ns.length≤1099511627776) (k:Bool→Option R):∀(F i:Nat),i≤ns.length→ns.length - i<F →
    aX F ns x (ns.length:Int) (i:Int) (k (decide ((-1:Int)≥0))) (fun y=>k (decide (y≥0)))=k ((ns.drop i).contains x):=by
  intro F
  induction F with
  | zero=>intro i _ h; omega
  | succ F ih =>
    intro i hi hF
    show iM (fun x0 x1 x2 x3=>aX F x0 x1 x2 x3 _ _) ns x (ns.length:Int) (i:Int) _ _=_
    unfold iM
    by_cases h:i<ns.length
    · have h1:decide ((i:Int)<(ns.length:Int))=true:=by simp; omega
      have h2:(decide ((0:Int)≤(i:Int))&&true)=true:=by simp
      have hw:IntKind.i64.wrap ((i:Int)+1)=((i+1:Nat):Int):=by rw[dE (by omega) (by omega)]; omega
      have hg:ns.getD (i:Int).toNat (Ty.ck .str)=ns[i]:=getD_at h _
      have hj:(decide ((i:Int)≥0))=true:=by simp
      rw[h1,cond_true,aS h2,hg,List.drop_eq_getElem_cons h,List.contains_cons]
      cases hq:x==ns[i]with
      | true =>
        rw[cond_true,Bool.true_or]
        show k (decide ((i:Int)≥0))=k true
        rw[hj]
      | false =>
        rw[cond_false,Bool.false_or,hw]
        exact ih (i+1) (by omega) (by omega)
    · have h1:decide ((i:Int)<(ns.length:Int))=false:=by simp; omega
      rw[h1,cond_false,List.drop_eq_nil_of_le (by omega)]
      rfl
theorem ED {R:Type} (ns:List aj) (x:aj) (hl:ns.length≤1099511627776) (k:Bool→Option R):bR ns x k=k (ns.contains x):=by
  have:=Ud ns x hl k (List.length ns+List.length x+Int.natAbs (ns.length:Int)+Int.natAbs 0+64) 0 (by omega) (by omega)
  rw[List.drop_zero]at this
  exact this

theorem name_ok {R:Type} (ns:List aj) (hl:ns.length≤1099511627776) {ts:List Token} (he:AD ts):W7 (fun p:aj × List Token=>∀k:aj→List Token→Int→Option R,cB ns ts 0 k=k p.1 p.2 0)
    (fun b=>∃nm,∀k:aj→List Token→Int→Option R,cB ns ts 0 k=k nm b.2 b.1) (Hj ns ts):=by
  cases ts with
  | nil=>exact (he.ne rfl).elim
  | cons t r =>
    have e0:∀k:aj→List Token→Int→Option R,cB ns (t::r) 0 k=cU (decide ((0:Int)<((t::r).length:Int))) (bif (t.kind != 2)then (k t.text (t::r) 40)else (bR ns t.text (fun y6=>bif y6 then (k t.text (t::r) 42)else (cU (decide ((1:Int)≤((t::r).length:Int))) (aq [58] r 0 (fun y9 yA wE=>bif (!y9)then (ak 40 yA wE (fun Ak DB=>k t.text Ak DB))else (k t.text yA wE))))))):=fun k=>rfl
    simp only[Hj]
    by_cases hk:t.kind=2
    · have e1:(t.kind != 2)=false:=by simp[hk]
      have hr:=he.tail (by rw[hk]; decide)
      rw[if_neg (by simp[hk])]
      cases hc:ns.contains t.text with
      | true =>
        rw[if_pos rfl]
        refine ⟨t.text,fun k => ?_⟩
        rw[e0,aS zy,e1,cond_false,ED ns _ hl,hc]
        rfl
      | false =>
        rw[if_neg (by simp)]
        have hs:=fun k:Bool→List Token→Int→Option R=>Gd [58] hr.ne k
        cases hq:mu [58] r with
        | some r' =>
          rw[hq]at hs
          intro k
          rw[e0,aS zy,e1,cond_false,ED ns _ hl,hc,cond_false,aS LD]
          exact hs _
        | none =>
          rw[hq]at hs
          refine ⟨t.text,fun k => ?_⟩
          rw[e0,aS zy,e1,cond_false,ED ns _ hl,hc,cond_false,aS LD]
          exact hs _
    · have e1:(t.kind != 2)=true:=by simp[hk]
      rw[if_pos hk]
      refine ⟨t.text,fun k => ?_⟩
      rw[e0,aS zy,e1]
      rfl

def Hval {R:Type} (jB:ax R) (f:List Token→Except Sx (Json × List Token)) (d:Int) (B:Nat):Prop :=
  ∀ts,AD ts→ts.length≤B→W7 (fun p:Json × List Token=>AD p.2∧∀k:Json→List Token→Int→Option R,jB d ts 0 k=k p.1 p.2 0)
    (fun b=>(AD b.2∧b.1≠0)∧∃v,∀k:Json→List Token→Int→Option R,jB d ts 0 k=k v b.2 b.1) (f ts)

theorem LF {α:Type} (l:List α) (a b:α):(l ++ [a]).set ((l.length:Int)).toNat b=l ++ [b]:=by
  rw[Int.toNat_natCast,List.set_append_right _ _ (Nat.le_refl _),Nat.sub_self]
  rfl

abbrev aaj (R:Type):=Bool→Int→Int→Int→aj→List aj→Nat→Int→List Json→List Token→Int→Option R
theorem aak {R:Type} (jB:ax R) (f:List Token→Except Sx (Json × List Token)) (d:Int) (hd:0≤d∧d≤16) (B:Nat) (hv:Hval jB f (d+1) B) (obj:Bool) (kd a b:Int) (tx:aj) (ns:List aj) (is:List Json) (ts:List Token)
    (he:AD ts) (hB:ts.length≤B) (H0:ns.length≤1000000000) (KH:is.length≤1000000000) :
    W7 (fun p:(List aj × List Json) × List Token=>AD p.2∧∀G:aaj R,bf jB obj kd a b tx ns is.length d is ts 0 (fun a1 a2 a3 a4 a5 a6 a7 a8 t e i=>G a1 a2 a3 a4 a5 a6 a7 a8 i t e) G (fun a1 a2 a3 a4 a5 a6 a7 a8 t e i=>G a1 a2 a3 a4 a5 a6 a7 a8 i t e) G=G obj kd a b tx p.1.1 p.1.2.length d p.1.2 p.2 0)
      (fun q=>(AD q.2∧q.1≠0)∧∃LG n' LH,∀G:aaj R,bf jB obj kd a b tx ns is.length d is ts 0 (fun a1 a2 a3 a4 a5 a6 a7 a8 t e i=>G a1 a2 a3 a4 a5 a6 a7 a8 i t e) G (fun a1 a2 a3 a4 a5 a6 a7 a8 t e i=>G a1 a2 a3 a4 a5 a6 a7 a8 i t e) G=G obj kd a b tx LG n' d LH q.2 q.1)
      (AQ f obj ns is ts):=by
  have e0:∀k0 k1 k2 k3,bf jB obj kd a b tx ns is.length d is ts 0 k0 k1 k2 k3=eC cB jB obj kd a b tx ns is.length d is ts 0 k0 k1 k2 k3:=fun _ _ _ _=>rfl
  have c1:decide ((ns.length+1)*16≤140737488355328)=true:=by rw[decide_eq_true_eq]; omega
  have c2:decide ((is.length+1)*88≤140737488355328)=true:=by rw[decide_eq_true_eq]; omega
  have hw:IntKind.i64.wrap (d+1)=d+1:=dE (by omega) (by omega)
  have kq:∀c:Int,c≠0→(c==0)=false:=fun c hc=>by simpa using hc
  cases obj with
  | true =>
    have hn:=name_ok (R:=R) ns (by omega) he
    have hnE:=W8 (ns:=ns) he
    have hnL:=fun p=>Pk (ns:=ns) (ts:=ts) (p:=p)
    simp only[AQ]
    cases hq:Hj ns ts with
    | error q =>
      rw[hq]at hn hnE
      obtain ⟨nm,hn⟩:=hn
      refine ⟨hnE,ns ++ [nm],is.length,is,fun G => ?_⟩
      rw[e0]
      unfold eC
      rw[cond_true,hn,aS c1,kq _ hnE.2]
      rfl
    | ok q =>
      obtain ⟨nm,ts1⟩:=q
      rw[hq]at hn hnE hnL
      have hl1:=hnL _ rfl
      have h2:=hv ts1 hnE (by simp only at hl1; omega)
      simp only
      cases hf:f ts1 with
      | error q =>
        rw[hf]at h2
        obtain ⟨h2,v,h3⟩:=h2
        refine ⟨h2,ns ++ [nm],is.length+1,is ++ [v],fun G => ?_⟩
        rw[e0]
        unfold eC
        rw[cond_true,hn,aS c1]
        show (jB (IntKind.i64.wrap (d+1)) ts1 0 _)=_
        rw[hw,h3,aS c2,aS (by simp; omega),aS (by simp),LF,Json.eta]
      | ok q =>
        obtain ⟨v,Li⟩:=q
        rw[hf]at h2
        obtain ⟨h2,h3⟩:=h2
        refine ⟨h2,fun G => ?_⟩
        rw[e0]
        unfold eC
        rw[cond_true,hn,aS c1]
        show (jB (IntKind.i64.wrap (d+1)) ts1 0 _)=_
        rw[hw,h3,aS c2,aS (by simp; omega),aS (by simp),LF,Json.eta]
        simp only[List.length_append,List.length_cons,List.length_nil]
  | false =>
    have h2:=hv ts he hB
    simp only[AQ]
    cases hf:f ts with
    | error q =>
      rw[hf]at h2
      obtain ⟨h2,v,h3⟩:=h2
      refine ⟨h2,ns,is.length+1,is ++ [v],fun G => ?_⟩
      rw[e0]
      unfold eC
      show (jB (IntKind.i64.wrap (d+1)) ts 0 _)=_
      rw[hw,h3,aS c2,aS (by simp; omega),aS (by simp),LF,Json.eta]
    | ok q =>
      obtain ⟨v,Li⟩:=q
      rw[hf]at h2
      obtain ⟨h2,h3⟩:=h2
      refine ⟨h2,fun G => ?_⟩
      rw[e0]
      unfold eC
      show (jB (IntKind.i64.wrap (d+1)) ts 0 _)=_
      rw[hw,h3,aS c2,aS (by simp; omega),aS (by simp),LF,Json.eta]
      simp only[List.length_append,List.length_cons,List.length_nil]

theorem W9 {f:List Token→Except Sx (Json × List Token)} {obj:Bool} {ns:List aj} {is:List Json} {ts:List Token} {p:(List aj × List Json) × List Token} (h:AQ f obj ns is ts = .ok p) :
    p.1.1.length≤ns.length+1∧p.1.2.length=is.length+1:=by
  cases obj with
  | true =>
    simp only[AQ]at h
    split at h
    · cases h
    · split at h
      · cases h
      · cases h; simp
  | false =>
    simp only[AQ]at h
    split at h
    · cases h
    · cases h; simp

theorem loop_ok {R:Type} (jB:ax R) (f:List Token→Except Sx (Json × List Token)) (hfl:∀ts p,f ts = .ok p→p.2.length<ts.length) (d:Int) (hd:0≤d∧d≤16) (B:Nat) (hBB:B≤100000000) (hv:Hval jB f (d+1) B) (obj:Bool) (kd a b:Int) (tx cl:aj) :
    ∀(F:Nat) (ns:List aj) (is:List Json) (ts:List Token),ts.length<F→AD ts→ts.length≤B→ns.length+ts.length≤1000000000→is.length+ts.length≤1000000000 →
    W7 (fun p:(List aj × List Json) × List Token=>AD p.2∧∀e0,aL jB F cl ts 0 obj kd a b tx ns is.length d is e0=e0 p.2 0 obj kd a b tx p.1.1 p.1.2.length d p.1.2)
      (fun q=>(AD q.2∧q.1≠0)∧∃LG n' LH,∀e0,aL jB F cl ts 0 obj kd a b tx ns is.length d is e0=e0 q.2 q.1 obj kd a b tx LG n' d LH)
      (Ab f cl obj F ns is ts):=by
  intro F
  induction F with
  | zero=>intro ns is ts h; omega
  | succ F ih =>
    intro ns is ts hF he hB H0 KH
    have e1:∀e0,aL jB (F+1) cl ts 0 obj kd a b tx ns is.length d is e0=nU ak (bf jB) aq (fun lP lQ my tO Er Es K6 K7 K8 K9 Ao F9=>aL jB F lP lQ my tO Er Es K6 K7 K8 K9 Ao F9 e0) cl ts 0 obj kd a b tx ns is.length d is e0:=fun e0=>rfl
    let G:(List Token→Int→Bool→Int→Int→Int→aj→List aj→Nat→Int→List Json→Option R)→aaj R:=fun e0 Xs TV WI Xt Xu Xv O7 RY RZ Xw WJ =>
      bif (WJ != 0)then (e0 Xw WJ Xs TV WI Xt Xu Xv O7 RY RZ)else (aq cl Xw WJ (fun y80 y81 y82=>bif y80 then (e0 y81 y82 Xs TV WI Xt Xu Xv O7 RY RZ)else (aq [44] y81 y82 (fun y86 y87 y88=>bif (!y86)then (ak 40 y87 y88 (fun y89 y90=>e0 y89 y90 Xs TV WI Xt Xu Xv O7 RY RZ))else (aL jB F cl y87 y88 Xs TV WI Xt Xu Xv O7 RY RZ e0)))))
    have e2:∀e0,aL jB (F+1) cl ts 0 obj kd a b tx ns is.length d is e0=bf jB obj kd a b tx ns is.length d is ts 0 (fun a1 a2 a3 a4 a5 a6 a7 a8 t e i=>G e0 a1 a2 a3 a4 a5 a6 a7 a8 i t e) (G e0) (fun a1 a2 a3 a4 a5 a6 a7 a8 t e i=>G e0 a1 a2 a3 a4 a5 a6 a7 a8 i t e) (G e0):=fun e0=>rfl
    have hp:=aak jB f d hd B hv obj kd a b tx ns is ts he hB (by omega) (by omega)
    simp only[Ab]
    cases hq:AQ f obj ns is ts with
    | error q =>
      rw[hq]at hp
      obtain ⟨h1,LG,n',LH,h2⟩:=hp
      refine ⟨h1,LG,n',LH,fun e0 => ?_⟩
      rw[e2,h2]
      show (bif (q.1 != 0)then _ else _)=_
      have:(q.1 != 0)=true:=by simpa using h1.2
      rw[this,cond_true]
    | ok q =>
      obtain ⟨⟨ns1,is1⟩,Li⟩:=q
      rw[hq]at hp
      obtain ⟨h1,h2⟩:=hp
      have hlen:=Kj hfl hq
      have Zf:=W9 hq
      simp only at h1 h2 hlen Zf ⊢
      have s1:=fun k:Bool→List Token→Int→Option R=>Gd cl h1.ne k
      cases hs:mu cl Li with
      | some r =>
        rw[hs]at s1
        refine ⟨DS h1 hs,fun e0 => ?_⟩
        rw[e2,h2]
        show aq cl Li 0 _=_
        rw[s1]
        rfl
      | none =>
        rw[hs]at s1
        have s2:=fun k:Bool→List Token→Int→Option R=>Gd [44] h1.ne k
        simp only
        cases U9:mu [44] Li with
        | none =>
          rw[U9]at s2
          refine ⟨⟨h1,by show (_:Int)≠0; simp⟩,ns1,is1.length,is1,fun e0 => ?_⟩
          rw[e2,h2]
          show aq cl Li 0 _=_
          rw[s1]
          show aq [44] Li 0 _=_
          rw[s2]
          rfl
        | some r =>
          rw[U9]at s2
          have hl3:=BO U9
          have hih:=ih ns1 is1 r (by omega) (DS h1 U9) (by omega) (by omega) (by omega)
          have e3:∀e0,aL jB (F+1) cl ts 0 obj kd a b tx ns is.length d is e0=aL jB F cl r 0 obj kd a b tx ns1 is1.length d is1 e0:=fun e0=>by
            rw[e2,h2]
            show aq cl Li 0 _=_
            rw[s1]
            show aq [44] Li 0 _=_
            rw[s2]
            rfl
          simp only[e3]
          exact hih

theorem Ve {R:Type} (jB:ax R) (f:List Token→Except Sx (Json × List Token)) (hfl:∀ts p,f ts = .ok p→p.2.length<ts.length) (d:Int) (hd:0≤d∧d≤16) (B:Nat) (hBB:B≤100000000) (hv:Hval jB f (d+1) B) (obj:Bool) (kd a b:Int) (tx cl:aj)
    (r:List Token) (he:AD r) (hB:r.length≤B) (hs:mu cl r=none) :
    W7 (fun p:(List aj × List Json) × List Token=>AD p.2∧∀K0 (K:Json→List Token→Int→Option R),bJ jB cl r 0 obj kd a b tx d K0 (fun DB Dg GG Ha Jn E2 KF LA BZ Ql RU=>K ⟨Ha,⟨Jn,E2⟩,KF,LA,RU⟩ DB Dg)=K ⟨kd,⟨a,b⟩,tx,p.1.1,p.1.2⟩ p.2 0)
      (fun q=>(AD q.2∧q.1≠0)∧∃v,∀K0 (K:Json→List Token→Int→Option R),bJ jB cl r 0 obj kd a b tx d K0 (fun DB Dg GG Ha Jn E2 KF LA BZ Ql RU=>K ⟨Ha,⟨Jn,E2⟩,KF,LA,RU⟩ DB Dg)=K v q.2 q.1) (Ab f cl obj (r.length+1) [] [] r):=by
  have e1:∀K0 K1,bJ jB cl r 0 obj kd a b tx d K0 K1=aq cl r 0 (fun yA wE Ak=>bif yA then (K0 wE Ak obj kd a b tx d)else (aL jB (List.length cl+List.length wE+Int.natAbs Ak+Int.natAbs kd+Int.natAbs a+Int.natAbs b+List.length tx+List.length ([]:List aj)+Int.natAbs d+List.length ([]:List Json)+64) cl wE Ak obj kd a b tx ([]:List aj) 0 d ([]:List Json) K1)):=fun K0 K1=>rfl
  have s1:=fun k:Bool→List Token→Int→Option R=>Gd cl he.ne k
  rw[hs]at s1
  have hl:=loop_ok jB f hfl d hd B hBB hv obj kd a b tx cl (List.length cl+List.length r+Int.natAbs 0+Int.natAbs kd+Int.natAbs a+Int.natAbs b+List.length tx+List.length ([]:List aj)+Int.natAbs d+List.length ([]:List Json)+64) [] [] r (by omega) he hB (by simp; omega) (by simp; omega)
  have e2:∀K0 K1,bJ jB cl r 0 obj kd a b tx d K0 K1=aL jB (List.length cl+List.length r+Int.natAbs 0+Int.natAbs kd+Int.natAbs a+Int.natAbs b+List.length tx+List.length ([]:List aj)+Int.natAbs d+List.length ([]:List Json)+64) cl r 0 obj kd a b tx ([]:List aj) ([]:List Json).length d ([]:List Json) K1:=fun K0 K1=>by
    rw[e1,s1]
    rfl
  rw[Nx hfl _ (r.length+1) [] [] r (by omega) (by omega)]at hl
  cases hq:Ab f cl obj (r.length+1) [] [] r with
  | error q =>
    rw[hq]at hl
    obtain ⟨h1,LG,n',LH,h2⟩:=hl
    exact ⟨h1,⟨kd,⟨a,b⟩,tx,LG,LH⟩,fun K0 K=>by rw[e2,h2]⟩
  | ok p =>
    rw[hq]at hl
    obtain ⟨h1,h2⟩:=hl
    exact ⟨h1,fun K0 K=>by rw[e2,h2]⟩
theorem Pm {R:Type} (jB:ax R) (obj:Bool) (kd a b d:Int) (tx cl:aj) (r r':List Token) (hn:r ≠ []) (hs:mu cl r=some r') (K0 K1) :
    bJ (R:=R) jB cl r 0 obj kd a b tx d K0 K1=K0 r' 0 obj kd a b tx d:=by
  have e1:bJ jB cl r 0 obj kd a b tx d K0 K1=aq cl r 0 (fun yA wE Ak=>bif yA then (K0 wE Ak obj kd a b tx d)else (aL jB (List.length cl+List.length wE+Int.natAbs Ak+Int.natAbs kd+Int.natAbs a+Int.natAbs b+List.length tx+List.length ([]:List aj)+Int.natAbs d+List.length ([]:List Json)+64) cl wE Ak obj kd a b tx ([]:List aj) 0 d ([]:List Json) K1)):=rfl
  rw[e1,Gd cl hn,hs]
  rfl

theorem Qz {R:Type} (jB:ax R) (d:Int) (r:List Token) (q:Json→List Token→Int→Option R):cu jB true d r 0 q =
    bJ jB [125] r 0 true 7 0 0 [] d (fun y5 y6 y7 y8 y9 yA wE Ak=>q ⟨y8,⟨y9,yA⟩,wE, [], []⟩ y5 y6) (fun DB Dg GG Ha Jn E2 KF LA BZ Ql RU=>q ⟨Ha,⟨Jn,E2⟩,KF,LA,RU⟩ DB Dg):=rfl
theorem QA {R:Type} (jB:ax R) (d:Int) (r:List Token) (q:Json→List Token→Int→Option R):cu jB false d r 0 q =
    bJ jB [93] r 0 false 6 0 0 [] d (fun y5 y6 y7 y8 y9 yA wE Ak=>q ⟨y8,⟨y9,yA⟩,wE, [], []⟩ y5 y6) (fun DB Dg GG Ha Jn E2 KF LA BZ Ql RU=>q ⟨Ha,⟨Jn,E2⟩,KF,LA,RU⟩ DB Dg):=rfl

section
variable {R:Type} (jB:ax R) (d:Int) (t:Token) (r:List Token) (k:Json→List Token→Int→Option R)
noncomputable def J18:Option R:=bif (t.kind==3)then k ⟨4,⟨t.num.aB,t.num.exp⟩, [], [], []⟩ r 0 else k ⟨5,⟨0,0⟩,t.text, [], []⟩ r 0
noncomputable def Xa (z:Bool):Option R:=bif z then (bif (t.kind==4)then k ⟨nP .str (.int .i64) t.text Qy,⟨0,0⟩, [], [], []⟩ r 0 else J18 t r k)else J18 t r k
noncomputable def J17 (z:Bool):Option R:=bif z then (bif (t.kind==1)then cu jB (t.text == [123]) d r 0 (fun Ak DB Dg=>k ⟨Ak.kind,⟨Ak.num.aB,Ak.num.exp⟩,Ak.text,Ak.names,Ak.items⟩ DB Dg)else J18 t r k)
  else (bif (t.text==po)then Xa t r k (t.text==po)else (bif (t.text==ly)then Xa t r k (t.text==ly)else Xa t r k (t.text==sJ)))
noncomputable def J19:Option R:=cU (decide ((1:Int)≤((t::r).length:Int))) (bif (t.text == [91])then J17 jB d t r k (t.text == [91])else J17 jB d t r k (t.text == [123]))
noncomputable def J20 (z:Bool):Option R:=bif (!z)then k ⟨0,⟨0,0⟩, [], [], []⟩ (t::r) 40 else (bif (decide (d>16))then k ⟨0,⟨0,0⟩, [], [], []⟩ (t::r) 41 else J19 jB d t r k)
end

theorem Ue {R:Type} (n:Nat) (d:Int) (t:Token) (r:List Token) (k:Json→List Token→Int→Option R):bB (n+1) d (t::r) 0 k=J20 (bB n) d t r k (tD t):=by
  have e0:bB (n+1) d (t::r) 0 k=cU (decide ((0:Int)<((t::r).length:Int))) (let j:=J20 (bB n) d t r k; bif (t.kind==2)then j true else (bif (t.kind==3)then j true else (bif (t.kind==4)then j true else (bif (t.kind==1)then (bif (t.text == [91])then j true else j (t.text == [123]))else j false)))):=rfl
  rw[e0,aS zy]
  unfold tD Ce
  simp only
  cases t.kind==2 <;> cases t.kind==3 <;> cases t.kind==4 <;> cases t.kind==1 <;> cases t.text == [91] <;> rfl

theorem Uf {x:aj} (h:Ce x=true):Dd x=false:=by
  unfold Ce at h
  rw[Bool.or_eq_true,beq_iff_eq,beq_iff_eq]at h
  rcases h with rfl|rfl <;> rfl

theorem aal {R:Type} (B:Nat) (hBB:B≤100000000):∀(n:Nat) (d:Int),0≤d→d≤17→17 - d<n→Hval (R:=R) (bB n) (ye n d) d B:=by
  intro n
  induction n with
  | zero=>intro d h0 h1 h2; omega
  | succ n ih =>
    intro d h0 h1 h2 ts he hB
    cases ts with
    | nil=>exact (he.ne rfl).elim
    | cons t r =>
      simp only[ye]
      have hv:=fun k=>Ue (R:=R) n d t r k
      cases Ti:tD t with
      | false =>
        rw[if_pos rfl]
        rw[Ti]at hv
        exact ⟨⟨he,by show (_:Int)≠0; simp⟩,_,fun k=>hv k⟩
      | true =>
        rw[if_neg (by simp)]
        rw[Ti]at hv
        by_cases hd:d>16
        · rw[if_pos hd]
          refine ⟨⟨he,by show (_:Int)≠0; simp⟩,⟨0,⟨0,0⟩, [], [], []⟩,fun k => ?_⟩
          rw[hv]
          unfold J20
          have e1:decide (d>16)=true:=by simpa using hd
          rw[e1]
          rfl
        · rw[if_neg hd]
          have hk5:t.kind≠5:=by
            intro h5
            simp[tD,h5]at Ti
          have her:=he.tail hk5
          have hrB:r.length≤B:=by simp only[List.length_cons]at hB; omega
          have We:∀k,bB (n+1) d (t::r) 0 k=J17 (bB n) d t r k (Ce t.text):=fun k=>by
            rw[hv]
            unfold J20
            have e1:decide (d>16)=false:=by simpa using hd
            rw[e1,Bool.not_true,cond_false,cond_false]
            unfold J19
            rw[aS LD]
            unfold Ce
            cases t.text == [91] <;> rfl
          have h18:¬(t.kind=1∧Ce t.text=true)→¬(t.kind=4∧Dd t.text=true)→∀k,bB (n+1) d (t::r) 0 k=J18 t r k:=fun g1 g2 k=>by
            rw[We]
            unfold J17
            cases ho:Ce t.text with
            | true =>
              have:(t.kind==1)=false:=by
                rw[beq_eq_false_iff_ne]
                exact fun h=>g1 ⟨h,ho⟩
              rw[cond_true,this,cond_false]
            | false =>
              rw[cond_false]
              have QK:(bif (t.text==po)then Xa t r k (t.text==po)else (bif (t.text==ly)then Xa t r k (t.text==ly)else Xa t r k (t.text==sJ)))=Xa t r k (Dd t.text):=by
                unfold Dd
                cases t.text==po <;> cases t.text==ly <;> rfl
              rw[QK]
              unfold Xa
              cases hn:Dd t.text with
              | false=>rfl
              | true =>
                have:(t.kind==4)=false:=by
                  rw[beq_eq_false_iff_ne]
                  exact fun h=>g2 ⟨h,hn⟩
                rw[cond_true,this,cond_false]
          by_cases Xr:t.kind=1∧Ce t.text=true
          · rw[if_pos Xr]
            have ek:(t.kind==1)=true:=by simpa using Xr.1
            have hvp:∀k,bB (n+1) d (t::r) 0 k=cu (bB n) (t.text == [123]) d r 0 k:=fun k=>by
              rw[We]
              unfold J17
              rw[Xr.2,cond_true,ek,cond_true]
              simp only[Json.eta]
            have jB:=ih (d+1) (by omega) (by omega) (by omega)
            have hfl:=fun ts p=>Sm n (d+1) ts p
            cases Rp:t.text == [123]with
            | true =>
              simp only[if_true]
              rw[Rp]at hvp
              cases hs:mu [125] r with
              | some r' =>
                refine ⟨DS her hs,fun k => ?_⟩
                rw[hvp]
                rw[Qz]
                rw[Pm _ _ _ _ _ _ _ _ _ _ her.ne hs]
              | none =>
                have hl:=Ve (R:=R) _ _ hfl d ⟨h0,by omega⟩ B hBB jB true 7 0 0 [] [125] r her hrB hs
                simp only
                cases hq:Ab (ye n (d+1)) [125] true (r.length+1) [] [] r with
                | error q =>
                  rw[hq]at hl
                  obtain ⟨g1,v,g2⟩:=hl
                  refine ⟨g1,v,fun k => ?_⟩
                  rw[hvp]
                  rw[Qz]
                  exact g2 _ k
                | ok p =>
                  rw[hq]at hl
                  obtain ⟨g1,g2⟩:=hl
                  refine ⟨g1,fun k => ?_⟩
                  rw[hvp]
                  rw[Qz]
                  exact g2 _ k
            | false =>
              simp only[Bool.false_eq_true,if_false]
              rw[Rp]at hvp
              cases hs:mu [93] r with
              | some r' =>
                refine ⟨DS her hs,fun k => ?_⟩
                rw[hvp]
                rw[QA]
                rw[Pm _ _ _ _ _ _ _ _ _ _ her.ne hs]
              | none =>
                have hl:=Ve (R:=R) _ _ hfl d ⟨h0,by omega⟩ B hBB jB false 6 0 0 [] [93] r her hrB hs
                simp only
                cases hq:Ab (ye n (d+1)) [93] false (r.length+1) [] [] r with
                | error q =>
                  rw[hq]at hl
                  obtain ⟨g1,v,g2⟩:=hl
                  refine ⟨g1,v,fun k => ?_⟩
                  rw[hvp]
                  rw[QA]
                  exact g2 _ k
                | ok p =>
                  rw[hq]at hl
                  obtain ⟨g1,g2⟩:=hl
                  refine ⟨g1,fun k => ?_⟩
                  rw[hvp]
                  rw[QA]
                  exact g2 _ k
          · rw[if_neg Xr]
            by_cases QK:t.kind=4∧Dd t.text=true
            · rw[if_pos QK]
              refine ⟨her,fun k => ?_⟩
              rw[We]
              have ho:Ce t.text=false:=by
                cases ho:Ce t.text with
                | false=>rfl
                | true=>rw[Uf ho]at QK; cases QK.2
              have ek:(t.kind==4)=true:=by simpa using QK.1
              unfold J17
              rw[ho,cond_false]
              have Jm:(bif (t.text==po)then Xa t r k (t.text==po)else (bif (t.text==ly)then Xa t r k (t.text==ly)else Xa t r k (t.text==sJ)))=Xa t r k (Dd t.text):=by
                unfold Dd
                cases t.text==po <;> cases t.text==ly <;> rfl
              rw[Jm,QK.2]
              unfold Xa
              rw[ek]
              rfl
            · rw[if_neg QK]
              have h:=h18 Xr QK
              by_cases hk3:t.kind=3
              · rw[if_pos hk3]
                refine ⟨her,fun k => ?_⟩
                rw[h]
                unfold J18
                have ek:(t.kind==3)=true:=by simpa using hk3
                rw[ek]
                rfl
              · rw[if_neg hk3]
                refine ⟨her,fun k => ?_⟩
                rw[h]
                unfold J18
                have ek:(t.kind==3)=false:=by simpa using hk3
                rw[ek]
                rfl


end Go.Proofs.YtmlkkgfenfdndaaGreatDoor

/-
  Functions of the program as pure Lean functions, and the ties; printed by wip/tools/emit.py.
-/
set_option maxRecDepth 100000
namespace Go.Proofs.YtmlkkgfenfdndaaGreatDoor
open Go Go.ay

end Go.Proofs.YtmlkkgfenfdndaaGreatDoor

set_option maxRecDepth 100000
namespace Go.Proofs.YtmlkkgfenfdndaaGreatDoor
open Go Go.ay Go.Lib

theorem Pn:∀(n p:Nat) (s:aj) (out:List Token),(wo n p s out).1.length≤out.length+s.length+1
  | 0,_,_,_=>by simp[wo]
  | n+1,p,s,out=>by
    simp only[wo]
    split
    · simp <;> omega
    · split
      · simp
      · rename_i t r hr
        have h1:=(tokS_sfx hr).2
        have h2:=zh qT s
        have h3:=Pn n (p+(s.length - r.length)) r (out ++ [WZ t ((p+(s.takeWhile qT).length:Nat):Int)])
        rw[List.length_append,List.length_cons,List.length_nil]at h3
        omega

theorem Xb (s:aj):(ug s).1.length≤20002:=by
  unfold ug
  split
  · simp
  · have:=Pn (s.length+1) 0 s []
    simp at this
    omega

end Go.Proofs.YtmlkkgfenfdndaaGreatDoor

/-
  Functions of the program as pure Lean functions, and the ties; printed by wip/tools/emit.py.
-/
set_option maxRecDepth 100000
namespace Go.Proofs.YtmlkkgfenfdndaaGreatDoor
open Go Go.ay

end Go.Proofs.YtmlkkgfenfdndaaGreatDoor

set_option maxRecDepth 100000
namespace Go.Proofs.YtmlkkgfenfdndaaGreatDoor
open Go Go.ay Go.Lib

structure RawW (R:Type) (x:Gw) (p:aj × Token):Prop where
  word:Word p.1 p.2
  len:p.1.length≤182
  run:∀k:aj→Option R,Nc x k=k p.1
  kind:∃q:Int,p.2.kind=1+q∧0≤q∧q<4∧∀k:Int→Option R,km x.kind 4 k=k q
  text:p.2.kind=2→∀k:aj→Bool→Option R,bj p.2.text k=k p.1 true
  other:p.2.kind≠2→p.2.text=p.1
  num:p.2.kind=3→∀k:iZ→Option R,di x.aB x.exp k=k p.2.num

end Go.Proofs.YtmlkkgfenfdndaaGreatDoor

/-
  Functions of the program as pure Lean functions, and the ties; printed by wip/tools/emit.py.
-/
set_option maxRecDepth 100000
namespace Go.Proofs.YtmlkkgfenfdndaaGreatDoor
open Go Go.ay

end Go.Proofs.YtmlkkgfenfdndaaGreatDoor

/-
  Functions of the program as pure Lean functions, and the ties; printed by wip/tools/emit.py.
-/
set_option maxRecDepth 100000
namespace Go.Proofs.YtmlkkgfenfdndaaGreatDoor
open Go Go.ay

end Go.Proofs.YtmlkkgfenfdndaaGreatDoor

set_option maxRecDepth 100000
namespace Go.Proofs.YtmlkkgfenfdndaaGreatDoor
open Go Go.ay Go.Lib

def QL (t:Token):Int × aj × iZ:=(t.kind,t.text,t.num)
theorem tokW_st:∀(l:List mh) (p:Nat),(tokW p l).map QL=l.map fun x=>QL x.2.2
  | [],_=>rfl
  | x::l,p=>by simp only[tokW,List.map_cons,tokW_st l]; rfl


theorem Po:∀(n p:Nat) (s:aj) (out:List Token),s.length<n→(wo n p s out).2.1=0→AD (wo n p s out).1
  | 0,_,_,_,h,_=>by omega
  | n+1,p,s,out,h,he=>by
    simp only[wo]at he ⊢
    by_cases hd:s.dropWhile qT = []
    · rw[if_pos hd]
      exact ⟨_,List.getLast?_concat ..,rfl⟩
    · rw[if_neg hd]at he ⊢
      cases hr:tokS (s.dropWhile qT)with
      | none=>rw[hr]at he; cases he
      | some q =>
        obtain ⟨t,r⟩:=q
        rw[hr]at he
        have h3:=(tokS_sfx hr).2
        have h4:=zh qT s
        exact Po n _ r _ (by omega) he
theorem Xc (s:aj) (he:(ug s).2.1=0):AD (ug s).1:=by
  unfold ug at he ⊢
  split at he
  · cases he
  · rename_i h
    rw[if_neg h]
    exact Po _ _ _ _ (by omega) he

def Kk (s:aj):Json × Int × Int :=
  if (ug s).2.1≠0 then (⟨0,⟨0,0⟩, [], [], []⟩,(ug s).2.1,(ug s).2.2)else
  match ye 40 1 (ug s).1 with
  | .error b=>(⟨0,⟨0,0⟩, [], [], []⟩,b.1,(b.2.getD 0 ⟨0, [],⟨0,0⟩,0⟩).at_)
  | .ok (v,r)=>if (r.getD 0 ⟨0, [],⟨0,0⟩,0⟩).kind≠5 then (⟨0,⟨0,0⟩, [], [], []⟩,40,(r.getD 0 ⟨0, [],⟨0,0⟩,0⟩).at_)else (v,0,0)

theorem Xd {R:Type} (s:aj) (k:Json→Int→Int→Option R):dp s k=k (Kk s).1 (Kk s).2.1 (Kk s).2.2:=by
  have e0:dp s k=BH ak cF dm s k:=rfl
  rw[e0]
  unfold BH Kk
  rw[Vd]
  by_cases h:(ug s).2.1=0
  rotate_left
  · have e1:((ug s).2.1 != 0)=true:=by simpa using h
    rw[if_pos h,e1]
    rfl
  have e1:((ug s).2.1 != 0)=false:=by simpa using h
  rw[if_neg (by simpa using h),e1,cond_false]
  have hE:=Xc s h
  have hL:=Xb s
  have hv:=aal (R:=R) 20002 (by omega) 40 1 (by omega) (by omega) (by omega) (ug s).1 hE hL
  have e2:∀q,cF (R:=R) 1 (ug s).1 0 q=bB 40 1 (ug s).1 0 q:=fun q=>rfl
  rw[e2]
  cases hq:ye 40 1 (ug s).1 with
  | error b =>
    rw[hq]at hv
    obtain ⟨⟨g1,g2⟩,v,g3⟩:=hv
    rw[g3]
    obtain ⟨c,r⟩:=b
    cases r with
    | nil=>exact (g1.ne rfl).elim
    | cons t r =>
      have e3:(c != 0)=true:=by simpa using g2
      have hf:∀q:List Token→Int→Option R,ak 40 (t::r) c q=q (t::r) c:=fun q=>by
        show (bif c==0 then q (t::r) 40 else q (t::r) c)=_
        have e4:(c==0)=false:=by simpa using g2
        rw[e4]; rfl
      rw[aS zy]
      simp only[hf]
      have hz:∀z:Bool,(bif z then (bif (c != 0)then cU (decide ((0:Int)<((t::r).length:Int))) (k ⟨0,⟨0,0⟩, [], [], []⟩ c t.at_)else k v 0 0)else (bif (c != 0)then cU (decide ((0:Int)<((t::r).length:Int))) (k ⟨0,⟨0,0⟩, [], [], []⟩ c t.at_)else k v 0 0))=k ⟨0,⟨0,0⟩, [], [], []⟩ c t.at_:=fun z=>by
        rw[e3,aS zy]
        cases z <;> rfl
      have:=hz (t.kind != 5)
      obtain ⟨kd,⟨n1,n2⟩,tx,ns,is⟩:=v
      exact this
  | ok p =>
    rw[hq]at hv
    obtain ⟨g1,g2⟩:=hv
    obtain ⟨v,r⟩:=p
    rw[g2]
    cases r with
    | nil=>exact (g1.ne rfl).elim
    | cons t r =>
      rw[aS zy]
      by_cases hk:t.kind=5
      · have e3:(t.kind != 5)=false:=by simpa using hk
        have:((((v,t::r):Json × List Token).2).getD 0 (Ty.ck .token)).kind=t.kind:=rfl
        show (bif (t.kind != 5)then _ else _)=_
        rw[e3,cond_false]
        obtain ⟨kd,⟨n1,n2⟩,tx,ns,is⟩:=v
        show k ⟨kd,⟨n1,n2⟩,tx,ns,is⟩ 0 0=_
        have rS:¬(((t::r).getD 0 ⟨0, [],⟨0,0⟩,0⟩).kind≠5):=fun h=>h hk
        simp only
        rw[if_neg rS]
      · have e3:(t.kind != 5)=true:=by simpa using hk
        show (bif (t.kind != 5)then _ else _)=_
        rw[e3,cond_true]
        show cU (decide ((0:Int)<((t::r).length:Int))) (k ⟨0,⟨0,0⟩, [], [], []⟩ 40 t.at_)=_
        rw[aS zy]
        have rS:(((t::r).getD 0 ⟨0, [],⟨0,0⟩,0⟩).kind≠5):=hk
        simp only
        rw[if_pos rS]
        rfl

def Sn (x:mh):Int × aj × iZ:=QL x.2.2
theorem EE {ts:List Token} {x:mh} {l:List mh} (h:ts.map QL=(x::l).map Sn):∃t r,ts=t::r∧QL t=Sn x∧r.map QL=l.map Sn:=by
  cases ts with
  | nil=>cases h
  | cons t r =>
    simp only[List.map_cons,List.cons.injEq]at h
    exact ⟨t,r,rfl,h.1,h.2⟩
theorem QB {ts:List Token} {a b:List mh} (h:ts.map QL=(a++b).map Sn):∃u v,ts=u++v∧u.map QL=a.map Sn∧v.map QL=b.map Sn:=by
  rw[List.map_append]at h
  obtain ⟨u,v,e,h1,h2⟩:=List.map_eq_append_iff.1 h
  exact ⟨u,v,e,h1,h2⟩
theorem Ny {ts:List Token} {x:mh} (h:ts.map QL = [x].map Sn):∃t,ts = [t]∧QL t=Sn x:=by
  obtain ⟨t,r,e,h1,h2⟩:=EE h
  cases r with
  | nil=>exact ⟨t,e,h1⟩
  | cons u r=>cases h2
theorem xO {t:Token} {x:mh} (h:QL t=Sn x):t.kind=x.2.2.kind∧t.text=x.2.2.text∧t.num=x.2.2.num:=by
  unfold Sn QL at h
  simp only[Prod.mk.injEq]at h
  exact h

theorem aam {n:Nat} {d:Int} (hd:d≤16) {t:Token} {rest:List Token} {x:aj} (hx:x=po∨x=ly∨x=sJ) (hk:t.kind=4) (ht:t.text=x) :
    ye (n+1) d (t::rest) = .ok (⟨nP .str (.int .i64) x Qy,⟨0,0⟩, [], [], []⟩,rest):=by
  have h1:tD t=true:=by simp[tD,hk]
  have h2:Dd t.text=true:=by
    rw[ht]
    rcases hx with rfl|rfl|rfl <;> rfl
  simp only[ye]
  rw[if_neg (by rw[h1]; simp),if_neg (by omega),if_neg (by rw[hk]; simp),if_pos ⟨hk,h2⟩,ht]

theorem Xe {n:Nat} {d:Int} {ts:List Token} {p:Json × List Token} (h:ye n d ts = .ok p):mu [93] ts=none∧mu [125] ts=none:=by
  cases n with
  | zero=>cases h
  | succ n =>
    cases ts with
    | nil=>cases h
    | cons t r =>
      simp only[ye]at h
      by_cases hs:tD t=false
      · rw[if_pos hs]at h; cases h
      · have kq:∀x:aj,x = [93]∨x = [125]→¬(t.kind=1∧t.text=x):=fun x hx ⟨h1,h2⟩=>by
          apply hs
          rcases hx with rfl|rfl <;> simp[tD,Ce,h1,h2]
        simp only[mu]
        rw[if_neg (kq _ (.inl rfl)),if_neg (kq _ (.inr rfl))]
        exact ⟨rfl,rfl⟩

mutual
theorem HW:∀(v:Json) (d:Int) (n:Nat) (ts rest:List Token),gR v d=true→17 - d<n→ts.map QL=(j2 v).map Sn→ye n d (ts++rest) = .ok (v,rest)
  | ⟨k,nm,t,ns,is⟩,d,0,ts,rest,h,hn,hw=>by
    have:d≤16:=by
      cases oz.1 h <;> assumption
    omega
  | ⟨k,nm,t,ns,is⟩,d,n+1,ts,rest,h,hn,hw=>by
    have hL:=So is
    have hO:=Sp ns is
    cases oz.1 h with
    | name _ _ hd hk =>
      have Iw:∀x:aj,(x=po∨x=ly∨x=sJ)→ts.map QL = [(([],x,⟨4,x,⟨0,0⟩,0⟩):mh)].map Sn→ye (n+1) d (ts++rest) = .ok (⟨nP .str (.int .i64) x Qy,⟨0,0⟩, [], [], []⟩,rest):=fun x hx hw=>by
        obtain ⟨u,rfl,hu⟩:=Ny hw
        obtain ⟨h1,h2,_⟩:=xO hu
        exact aam hd hx h1 h2
      rcases hk with rfl|rfl|rfl
      · exact Iw po (.inl rfl) hw
      · exact Iw ly (.inr (.inl rfl)) hw
      · exact Iw sJ (.inr (.inr rfl)) hw
    | num _ _ hd QK =>
      obtain ⟨u,rfl,hu⟩:=Ny (x:=([],zX nm,⟨3,zX nm,nm,0⟩)) hw
      obtain ⟨h1,h2,h3⟩:=xO hu
      simp only at h1 h2 h3
      have hs:tD u=true:=by simp[tD,h1]
      show ye (n+1) d (u::rest)=_
      simp only[ye]
      rw[if_neg (by rw[hs]; simp),if_neg (by omega),if_neg (by rw[h1]; simp),if_neg (by rw[h1]; simp),if_pos h1,h3]
    | text _ _ hd ht =>
      obtain ⟨u,rfl,hu⟩:=Ny (x:=T8 t) hw
      obtain ⟨h1,h2,h3⟩:=xO hu
      simp only[T8]at h1 h2 h3
      have hs:tD u=true:=by simp[tD,h1]
      show ye (n+1) d (u::rest)=_
      simp only[ye]
      rw[if_neg (by rw[hs]; simp),if_neg (by omega),if_neg (by rw[h1]; simp),if_neg (by rw[h1]; simp),if_neg (by rw[h1]; simp),h2]
    | arr _ _ hd hi =>
      obtain ⟨u,Li,rfl,hu,hw2⟩:=EE (x:=sg 91) (l:=pL is true ++ [sg 93]) hw
      obtain ⟨tl,tc,rfl,hl,HZ⟩:=QB hw2
      obtain ⟨c,rfl,hc⟩:=Ny HZ
      obtain ⟨h1,h2,_⟩:=xO hu
      obtain ⟨c1,c2,_⟩:=xO hc
      simp only[sg]at h1 h2 c1 c2
      have EX:Ce u.text=true:=by rw[h2]; rfl
      have hs:tD u=true:=by simp[tD,h1,EX]
      have ho7:(u.text==([123]:aj))=false:=by rw[h2]; rfl
      show ye (n+1) d (u::(tl ++ [c]++rest))=_
      simp only[ye]
      rw[if_neg (by rw[hs]; simp),if_neg (by omega),if_pos ⟨h1,EX⟩,ho7]
      simp only[Bool.false_eq_true,if_false]
      cases is with
      | nil =>
        obtain rfl:tl = []:=by simpa [pL]using hl
        show (match mu [93] (c::rest)with|some r'=>_|none=>_)=_
        have:mu [93] (c::rest)=some rest:=by
          show (if c.kind=1∧c.text = [93]then some rest else none)=some rest
          rw[if_pos ⟨c1,c2⟩]
        rw[this]
      | cons x l =>
        obtain ⟨e1,e2⟩:=hL d n (tl ++ [c]++rest).length.succ [] [] tl c rest (by simp) hi (by omega) (by simp; omega) hl c1 c2
        rw[e1,e2]
        rfl
    | obj _ _ _ hd hlen hu7 hi =>
      obtain ⟨u,Li,rfl,hu,hw2⟩:=EE (x:=sg 123) (l:=nI ns is true ++ [sg 125]) hw
      obtain ⟨tl,tc,rfl,hl,HZ⟩:=QB hw2
      obtain ⟨c,rfl,hc⟩:=Ny HZ
      obtain ⟨h1,h2,_⟩:=xO hu
      obtain ⟨c1,c2,_⟩:=xO hc
      simp only[sg]at h1 h2 c1 c2
      have EX:Ce u.text=true:=by rw[h2]; rfl
      have hs:tD u=true:=by simp[tD,h1,EX]
      have ho7:(u.text==([123]:aj))=true:=by rw[h2]; rfl
      show ye (n+1) d (u::(tl ++ [c]++rest))=_
      simp only[ye]
      rw[if_neg (by rw[hs]; simp),if_neg (by omega),if_pos ⟨h1,EX⟩,ho7]
      simp only[if_true]
      cases is with
      | nil =>
        obtain rfl:ns = []:=List.eq_nil_of_length_eq_zero hlen
        obtain rfl:tl = []:=by simpa [nI]using hl
        show (match mu [125] (c::rest)with|some r'=>_|none=>_)=_
        have:mu [125] (c::rest)=some rest:=by
          show (if c.kind=1∧c.text = [125]then some rest else none)=some rest
          rw[if_pos ⟨c1,c2⟩]
        rw[this]
      | cons x l =>
        obtain ⟨e1,e2⟩:=hO d n (tl ++ [c]++rest).length.succ [] [] [] tl c rest (by simp) hlen hi hu7 (fun n=>rfl) (by omega) (by simp; omega) hl c1 c2
        rw[e1,e2]
        rfl
theorem So:∀(is:List Json) (d:Int) (n m:Nat) (QM:List aj) (Sy:List Json) (tl:List Token) (c:Token) (rest:List Token),is ≠ []→gV is (d+1)=true→17 - (d+1)<n→tl.length<m →
    tl.map QL=(pL is true).map Sn→c.kind=1→c.text = [93]→mu [93] (tl ++ [c]++rest)=none∧Ab (ye n (d+1)) [93] false m QM Sy (tl ++ [c]++rest) = .ok ((QM,Sy++is),rest)
  | [],_,_,_,_,_,_,_,_,h,_,_,_,_,_,_=>(h rfl).elim
  | x::l,d,n,0,QM,Sy,tl,c,rest,_,hr,hn,hm,hw,c1,c2=>by omega
  | x::l,d,n,m+1,QM,Sy,tl,c,rest,_,hr,hn,hm,hw,c1,c2=>by
    obtain ⟨tv,tr,rfl,hv,ht⟩:=QB (a:=j2 x) (b:=pL l false) hw
    simp only[gV,Bool.and_eq_true]at hr
    have hx:=HW x (d+1) n tv (tr ++ [c]++rest) hr.1 hn hv
    have hL:=So l
    rw[show tv++tr ++ [c]++rest=tv++(tr ++ [c]++rest) by simp]
    refine ⟨(Xe hx).1,?_⟩
    have hp:AQ (ye n (d+1)) false QM Sy (tv++(tr ++ [c]++rest)) = .ok ((QM,Sy ++ [x]),tr ++ [c]++rest):=by
      simp only[AQ,hx]
    simp only[Ab,hp]
    cases l with
    | nil =>
      obtain rfl:tr = []:=by simpa [pL]using ht
      have:mu [93] ([] ++ [c]++rest)=some rest:=by
        show (if c.kind=1∧c.text = [93]then some rest else none)=some rest
        rw[if_pos ⟨c1,c2⟩]
      rw[this]
    | cons y l' =>
      obtain ⟨u,Xf,rfl,hu,ht'⟩:=EE (x:=sg 44) (l:=pL (y::l') true) ht
      obtain ⟨u1,u2,_⟩:=xO hu
      simp only[sg]at u1 u2
      have s1:mu [93] (u::Xf ++ [c]++rest)=none:=by
        show (if u.kind=1∧u.text = [93]then some (Xf ++ [c]++rest)else none)=none
        rw[if_neg (by rw[u2]; rintro ⟨_,h⟩; cases h)]
      have s2:mu [44] (u::Xf ++ [c]++rest)=some (Xf ++ [c]++rest):=by
        show (if u.kind=1∧u.text = [44]then some (Xf ++ [c]++rest)else none)=_
        rw[if_pos ⟨u1,u2⟩]
      rw[s1,s2]
      obtain ⟨_,e2⟩:=hL d n m QM (Sy ++ [x]) Xf c rest (by simp) hr.2 hn (by simp at hm; omega) ht' c1 c2
      simp only
      rw[e2]
      simp
theorem Sp:∀(ns:List aj) (is:List Json) (d:Int) (n m:Nat) (QM:List aj) (Sy:List Json) (seen:List aj) (tl:List Token) (c:Token) (rest:List Token),is ≠ []→ns.length=is.length→gV is (d+1)=true→wu seen ns=true→(∀n,QM.contains n=seen.contains n) →
    17 - (d+1)<n→tl.length<m →
    tl.map QL=(nI ns is true).map Sn→c.kind=1→c.text = [125]→mu [125] (tl ++ [c]++rest)=none∧Ab (ye n (d+1)) [125] true m QM Sy (tl ++ [c]++rest) = .ok ((QM++ns,Sy++is),rest)
  | _, [],_,_,_,_,_,_,_,_,_,h,_,_,_,_,_,_,_,_,_=>(h rfl).elim
  | [],x::l,d,n,m,QM,Sy,seen,tl,c,rest,_,hlen,hr,hu,hsn,hn,hm,hw,c1,c2=>by cases hlen
  | nm::ns,x::l,d,n,0,QM,Sy,seen,tl,c,rest,_,hlen,hr,hu,hsn,hn,hm,hw,c1,c2=>by omega
  | nm::ns,x::l,d,n,m+1,QM,Sy,seen,tl,c,rest,_,hlen,hr,hu,hsn,hn,hm,hw,c1,c2=>by
    obtain ⟨tn,tl1,rfl,hn1,hw1⟩:=EE (x:=T8 nm) (l:=sg 58::(j2 x++nI ns l false)) hw
    obtain ⟨tk,tl2,rfl,V6,hw2⟩:=EE hw1
    obtain ⟨tv,tr,rfl,hv,ht⟩:=QB hw2
    obtain ⟨n1,n2,_⟩:=xO hn1
    obtain ⟨k1,k2,_⟩:=xO V6
    simp only[T8]at n1 n2
    simp only[sg]at k1 k2
    simp only[gV,Bool.and_eq_true]at hr
    simp only[wu,Bool.and_eq_true,Bool.not_eq_true']at hu
    have hx:=HW x (d+1) n tv (tr ++ [c]++rest) hr.1 hn hv
    have hO:=Sp ns l
    rw[show tn::tk::(tv++tr) ++ [c]++rest=tn::tk::(tv++(tr ++ [c]++rest)) by simp]
    refine ⟨?_,?_⟩
    · show (if tn.kind=1∧tn.text = [125]then some _ else none)=none
      rw[if_neg (by rw[n1]; rintro ⟨h,_⟩; cases h)]
    have QK:Hj QM (tn::tk::(tv++(tr ++ [c]++rest))) = .ok (nm,tv++(tr ++ [c]++rest)):=by
      simp only[Hj]
      rw[if_neg (by rw[n1]; simp),if_neg (by rw[n2,hsn,hu.1.1]; simp)]
      have:mu [58] (tk::(tv++(tr ++ [c]++rest)))=some (tv++(tr ++ [c]++rest)):=by
        show (if tk.kind=1∧tk.text = [58]then some (tv++(tr ++ [c]++rest))else none)=_
        rw[if_pos ⟨k1,k2⟩]
      rw[this,n2]
    have hp:AQ (ye n (d+1)) true QM Sy (tn::tk::(tv++(tr ++ [c]++rest))) = .ok ((QM ++ [nm],Sy ++ [x]),tr ++ [c]++rest):=by
      simp only[AQ,QK,hx]
    simp only[Ab,hp]
    cases l with
    | nil =>
      obtain rfl:ns = []:=List.eq_nil_of_length_eq_zero (by simpa using hlen)
      obtain rfl:tr = []:=by simpa [nI]using ht
      have:mu [125] ([] ++ [c]++rest)=some rest:=by
        show (if c.kind=1∧c.text = [125]then some rest else none)=some rest
        rw[if_pos ⟨c1,c2⟩]
      rw[this]
    | cons y l' =>
      obtain ⟨u,Xf,rfl,Uq,ht'⟩:=EE (x:=sg 44) (l:=nI ns (y::l') true) ht
      obtain ⟨u1,u2,_⟩:=xO Uq
      simp only[sg]at u1 u2
      have s1:mu [125] (u::Xf ++ [c]++rest)=none:=by
        show (if u.kind=1∧u.text = [125]then some (Xf ++ [c]++rest)else none)=none
        rw[if_neg (by rw[u2]; rintro ⟨_,h⟩; cases h)]
      have s2:mu [44] (u::Xf ++ [c]++rest)=some (Xf ++ [c]++rest):=by
        show (if u.kind=1∧u.text = [44]then some (Xf ++ [c]++rest)else none)=_
        rw[if_pos ⟨u1,u2⟩]
      rw[s1,s2]
      obtain ⟨_,e2⟩:=hO d n m (QM ++ [nm]) (Sy ++ [x]) (nm::seen) Xf c rest (by simp) (by simpa using hlen) hr.2 hu.2 (fun z=>by
        rw[List.contains_append,hsn,List.contains_cons,List.contains_cons,List.contains_nil,Bool.or_false,Bool.or_comm]) hn (by simp at hm; omega) ht' c1 c2
      simp only
      rw[e2]
      simp
end

theorem aan {v:Json} (h:gR v 1=true) (ts:List Token) (rest:List Token) (hw:ts.map QL=(j2 v).map Sn):ye 40 1 (ts++rest) = .ok (v,rest):=HW v 1 40 ts rest h (by omega) hw

def tight (l:List mh):Prop:=∀x∈l,x.1 = []
mutual
theorem Ug:∀v:Json,tight (j2 v)
  | ⟨k,n,t,ns,is⟩=>by
    have hL:=aao is
    have hO:=aap ns is
    intro x hx
    simp only[j2]at hx
    split at hx
    · simp at hx; rw[hx]
    split at hx
    · simp at hx; rw[hx]
    split at hx
    · simp at hx; rw[hx]
    split at hx
    · simp at hx; rw[hx]
    split at hx
    · simp[T8]at hx; rw[hx]
    split at hx
    · simp only[List.mem_cons,List.mem_append,List.not_mem_nil,or_false]at hx
      rcases hx with rfl|hx|rfl
      · rfl
      · exact hO true x hx
      · rfl
    · simp only[List.mem_cons,List.mem_append,List.not_mem_nil,or_false]at hx
      rcases hx with rfl|hx|rfl
      · rfl
      · exact hL true x hx
      · rfl
theorem aao:∀(l:List Json) (first:Bool),tight (pL l first)
  | [],_=>by intro x hx; simp[pL]at hx
  | y::l,first=>by
    have h1:=Ug y
    have h2:=aao l false
    intro x hx
    simp only[pL,List.mem_append]at hx
    rcases hx with hx|hx|hx
    · cases first
      · simp at hx; rw[hx]; rfl
      · simp at hx
    · exact h1 x hx
    · exact h2 x hx
theorem aap:∀(ns:List aj) (l:List Json) (first:Bool),tight (nI ns l first)
  | _, [],_=>by intro x hx; simp[nI]at hx
  | ns,y::l,first=>by
    have h1:=Ug y
    have h2:=aap ns.tail l false
    intro x hx
    simp only[nI,List.mem_append,List.mem_cons]at hx
    rcases hx with hx|rfl|rfl|hx|hx
    · cases first
      · simp at hx; rw[hx]; rfl
      · simp at hx
    · rfl
    · rfl
    · exact h1 x hx
    · exact h2 x hx
end


theorem wq {R:Type} (t s:aj) (hv:gM t=true) (ht:t.length≤10000000000) (hl:(s++Ld t).length≤100000000000) (k:List Int→Option R):aG t (zs s) k=k (zs (s++Ld t)):=by
  obtain ⟨rs,hr,hc,rfl,_,hq⟩|⟨h,_⟩:=Kc (R:=R) t ht
  · have e:aG (cQ rs) (zs s) k=bj (cQ rs) (fun y3 y4=>af y3 (zs s) (fun y5 y6=>k y6)):=rfl
    rw[Jg hr]at hl ⊢
    rw[List.length_append]at hl
    rw[e,hq]
    exact ws (qt rs) s (by omega) (by unfold I1; omega) _
  · rw[hv]at h; cases h

def Ac (v:Json) (i:Nat):aj:=if v.kind=7 then oQ (v.names.drop i) (v.items.drop i) (i==0)else pK (v.items.drop i) (i==0)

theorem Nz {R:Type} (f:bK R) (z:aj) (v:Json) (hl:v.items.length≤1099511627776) (h7:v.kind=7→v.names.length=v.items.length∧∀t∈v.names,gM t=true∧t.length≤10000000000)
    (hf:∀x∈v.items,∀(s:aj) (k:List Int→Option R),(s++rK x).length≤100000000000→f x (zs s) k=k (zs (s++rK x))) (e0:aj→List Int→Option R):∀(F i:Nat) (s:aj),i≤v.items.length→v.items.length - i<F→(s++Ac v i).length≤100000000000 →
    aU f F z v.items (v.items.length:Int) (i:Int) (zs s) v e0=e0 z (zs (s++Ac v i)):=by
  intro F
  induction F with
  | zero=>intro i s _ h; omega
  | succ F ih =>
    intro i s hi hF hb
    have eL:aU f (F+1) z v.items (v.items.length:Int) (i:Int) (zs s) v e0=jl ad f aG (fun lP lQ my tO Er Es=>aU f F lP lQ my tO Er Es e0) z v.items (v.items.length:Int) (i:Int) (zs s) v e0:=rfl
    rw[eL]
    unfold jl
    simp only[Json.eta]
    by_cases h:i<v.items.length
    rotate_left
    · have h1:decide ((i:Int)<(v.items.length:Int))=false:=by simp; omega
      rw[h1,cond_false]
      have hd:v.items.drop i = []:=List.drop_eq_nil_of_le (by omega)
      have:Ac v i = []:=by
        unfold Ac
        rw[hd]
        split
        · cases v.names.drop i <;> rfl
        · rfl
      rw[this,List.append_nil]
    have h1:decide ((i:Int)<(v.items.length:Int))=true:=by simp; omega
    have h2:(decide ((0:Int)≤(i:Int))&&true)=true:=by simp
    have hw:IntKind.i64.wrap ((i:Int)+1)=((i+1:Nat):Int):=by rw[dE (by omega) (by omega)]; omega
    have hg:v.items.getD (i:Int).toNat (Ty.ck .json)=v.items[i]:=getD_at h _
    have hr:Ac v i=(if i=0 then []else [44])++((if v.kind=7 then Ld (v.names.getD i []) ++ [58]else [])++(rK v.items[i]++Ac v (i+1))):=by
      unfold Ac
      rw[List.drop_eq_getElem_cons h]
      by_cases Vf:v.kind=7
      · rw[if_pos Vf,if_pos Vf,if_pos Vf]
        have hn:=(h7 Vf).1
        have hni:i<v.names.length:=by omega
        rw[List.drop_eq_getElem_cons hni]
        simp only[oQ,List.headD_cons,List.tail_cons]
        have:v.names.getD i []=v.names[i]:=getD_at hni _
        rw[this]
        by_cases h0:i=0
        · subst h0; simp
        · have e1:(i==0)=false:=by simpa using h0
          have e2:(i+1==0)=false:=rfl
          rw[e1,e2]
          simp[h0]
      · rw[if_neg Vf,if_neg Vf,if_neg Vf]
        simp only[pK]
        by_cases h0:i=0
        · subst h0; simp
        · have e1:(i==0)=false:=by simpa using h0
          have e2:(i+1==0)=false:=rfl
          rw[e1,e2]
          simp[h0]
    rw[hr]at hb ⊢
    rw[h1,cond_true,aS h2,hg,hw]
    -- from the name on
    have key:∀s':aj,(s'++((if v.kind=7 then Ld (v.names.getD i []) ++ [58]else [])++(rK v.items[i]++Ac v (i+1)))).length≤100000000000 →
        (bif (v.kind==7)then (cU (decide ((0:Int)≤(i:Int))&&decide ((i:Int)<(v.names.length:Int))) (aG (v.names.getD (i:Int).toNat (Ty.ck .str)) (zs s') (fun J2=>ad 58 J2 (fun Jp=>f v.items[i] Jp (fun Jq=>aU f F z v.items (v.items.length:Int) ((i+1:Nat):Int) Jq v e0)))))else (f v.items[i] (zs s') (fun Oi=>aU f F z v.items (v.items.length:Int) ((i+1:Nat):Int) Oi v e0))) =
        e0 z (zs (s'++((if v.kind=7 then Ld (v.names.getD i []) ++ [58]else [])++(rK v.items[i]++Ac v (i+1))))):=by
      intro s' pT
      by_cases Vf:v.kind=7
      · rw[if_pos Vf]at pT ⊢
        have hk:(v.kind==7)=true:=by simpa using Vf
        have hn:=(h7 Vf).1
        have hni:i<v.names.length:=by omega
        have hgn:v.names.getD (i:Int).toNat (Ty.ck .str)=v.names.getD i []:=rfl
        have hgi:v.names.getD i []=v.names[i]:=getD_at hni _
        obtain ⟨Vq,We⟩:=(h7 Vf).2 v.names[i] (List.getElem_mem hni)
        rw[hk,cond_true,aS (by simp; omega),hgn]
        rw[hgi]at pT ⊢
        have e58:((58:UInt8).toNat:Int)=58:=rfl
        simp only[List.length_append,List.length_cons,List.length_nil]at pT
        rw[wq _ _ Vq We (by rw[List.length_append]; omega),←e58,wb _ _ (by unfold I1; rw[List.length_append]; omega),hf _ (List.getElem_mem h) _ _ (by simp only[List.length_append,List.length_cons,List.length_nil]; omega),
          ih (i+1) _ (by omega) (by omega) (by simp only[List.length_append,List.length_cons,List.length_nil]; omega)]
        simp only[List.append_assoc]
      · rw[if_neg Vf]at pT ⊢
        have hk:(v.kind==7)=false:=by simpa using Vf
        rw[List.nil_append]at pT ⊢
        simp only[List.length_append]at pT
        rw[hk,cond_false,hf _ (List.getElem_mem h) _ _ (by rw[List.length_append]; omega),ih (i+1) _ (by omega) (by omega) (by simp only[List.length_append]; omega)]
        simp only[List.append_assoc]
    by_cases h0:i=0
    · subst h0
      rw[if_pos rfl,List.nil_append]at hb ⊢
      exact key s hb
    · rw[if_neg h0]at hb ⊢
      have e3:decide ((i:Int)>0)=true:=by simp; omega
      have e44:((44:UInt8).toNat:Int)=44:=rfl
      have NP:=hb
      simp only[List.length_append,List.length_cons,List.length_nil]at NP
      rw[e3,cond_true,←e44,wb _ _ (by unfold I1; omega)]
      have:=key (s ++ [44]) (by simp only[List.length_append,List.length_cons,List.length_nil]; omega)
      rw[List.append_assoc]at this
      exact this

theorem EF:∀(ns:List aj) (seen:List aj),wu seen ns=true→∀t∈ns,gM t=true
  | [],_,_,t,h=>by cases h
  | n::ns,seen,h,t,ht=>by
    simp only[wu,Bool.and_eq_true]at h
    rcases List.mem_cons.1 ht with rfl|ht
    · exact h.1.2
    · exact EF ns _ h.2 t ht

theorem write_N {R:Type}:∀(n:Nat) (v:Json) (d:Int),gR v d=true→Le v=true→v.depth<n→∀(s:aj) (k:List Int→Option R),(s++rK v).length≤100000000000→dB n v (zs s) k=k (zs (s++rK v)):=by
  intro n
  induction n with
  | zero=>intro v d _ _ h; omega
  | succ n ih =>
    intro v d hr hl hn s k hb
    obtain ⟨H0,KH,VZ,htx,N3⟩:=B9.1 hl
    have e0:dB (n+1) v (zs s) k=xk bc ad af aG (aU (dB n)) v (zs s) k:=rfl
    rw[e0]
    have DT:∀(z:aj) (e:aj→List Int→Option R) (F:Nat) (s':aj),(v.kind=7→v.names.length=v.items.length∧∀t∈v.names,gM t=true∧t.length≤10000000000)→gV v.items (d+1)=true→v.items.length<F→(s'++Ac v 0).length≤100000000000 →
        aU (dB n) F z v.items (v.items.length:Int) 0 (zs s') v e=e z (zs (s'++Ac v 0)):=fun z e F s' h7 hi hF pT =>
      Nz (dB n) z v KH h7 (fun x hx s k hb=>ih x (d+1) (HV hi hx) (F7 VZ hx) (by have:=F8 hx; omega) s k hb) e F 0 s' (by omega) (by omega) pT
    cases oz.1 hr with
    | name kd _ hd hk =>
      rcases hk with rfl|rfl|rfl
      · show af po (zs s) (fun y3 y4=>k y4)=k (zs (s++po))
        exact ws po s (by decide) (by unfold I1; rw[List.length_append]at hb; omega) _
      · show af ly (zs s) (fun y3 y4=>k y4)=k (zs (s++ly))
        exact ws ly s (by decide) (by unfold I1; rw[List.length_append]at hb; omega) _
      · show af sJ (zs s) (fun y3 y4=>k y4)=k (zs (s++sJ))
        exact ws sJ s (by decide) (by unfold I1; rw[List.length_append]at hb; omega) _
    | num nm _ hd QK =>
      have NP:(s++zX nm).length≤100000000000:=hb
      rw[List.length_append]at NP
      show bc ⟨nm.aB,nm.exp⟩ (fun y9=>af y9 (zs s) (fun yA wE=>k wE))=k (zs (s++zX nm))
      rw[Pg]
      exact ws (zX nm) s (by omega) (by unfold I1; omega) _
    | text t _ hd ht=>exact wq t s ht htx hb k
    | arr is _ hd hi =>
      have NP:(s++(91::(pK is true ++ [93]))).length≤100000000000:=hb
      simp only[List.length_append,List.length_cons,List.length_nil]at NP
      have e91:((91:UInt8).toNat:Int)=91:=rfl
      have e93:((93:UInt8).toNat:Int)=93:=rfl
      show ad ((91:UInt8).toNat:Int) (zs s) (fun Dg=>aU (dB n) _ [91,93] is (is.length:Int) 0 Dg ⟨6,⟨0,0⟩, [], [],is⟩ (fun NR Qm=>cU (decide ((1:Int)<(NR.length:Int))) (ad ((NR.getD 1 0).toNat:Int) Qm (fun NS=>k NS))))=k (zs (s++(91::(pK is true ++ [93]))))
      rw[wb _ _ (by unfold I1; omega)]
      simp only at DT
      have hz:Ac ⟨6,⟨0,0⟩, [], [],is⟩ 0=pK is true:=rfl
      rw[hz]at DT
      rw[DT _ _ _ _ (fun h=>by cases h) hi]
      rotate_left
      · simp only[List.length_cons,List.length_nil]; omega
      · simp only[List.length_append,List.length_cons,List.length_nil]; omega
      show ad ((93:UInt8).toNat:Int) (zs ((s ++ [91])++pK is true)) (fun NS=>k NS)=_
      rw[wb _ _ (by unfold I1; simp only[List.length_append,List.length_cons,List.length_nil]; omega)]
      simp only[List.append_assoc,List.cons_append,List.nil_append]
    | obj ns is _ hd hlen hu hi =>
      have NP:(s++(123::(oQ ns is true ++ [125]))).length≤100000000000:=hb
      simp only[List.length_append,List.length_cons,List.length_nil]at NP
      show ad ((123:UInt8).toNat:Int) (zs s) (fun Dg=>aU (dB n) _ [123,125] is (is.length:Int) 0 Dg ⟨7,⟨0,0⟩, [],ns,is⟩ (fun NR Qm=>cU (decide ((1:Int)<(NR.length:Int))) (ad ((NR.getD 1 0).toNat:Int) Qm (fun NS=>k NS))))=k (zs (s++(123::(oQ ns is true ++ [125]))))
      rw[wb _ _ (by unfold I1; omega)]
      simp only at DT
      have hz:Ac ⟨7,⟨0,0⟩, [],ns,is⟩ 0=oQ ns is true:=rfl
      rw[hz]at DT
      rw[DT _ _ _ _ (fun _=>⟨hlen,fun t ht=>⟨EF ns [] hu t ht,N3 t ht⟩⟩) hi]
      rotate_left
      · simp only[List.length_cons,List.length_nil]; omega
      · simp only[List.length_append,List.length_cons,List.length_nil]; omega
      show ad ((125:UInt8).toNat:Int) (zs ((s ++ [123])++oQ ns is true)) (fun NS=>k NS)=_
      rw[wb _ _ (by unfold I1; simp only[List.length_append,List.length_cons,List.length_nil]; omega)]
      simp only[List.append_assoc,List.cons_append,List.nil_append]
theorem NA {R:Type}:∀(F:Nat) (a:aj) (b:List Json) (c d:Int) (e:List Int) (f:Json) (g:aj→List Int→Option R),bm F a b c d e f g=aU bF F a b c d e f g:=by
  intro F
  induction F with
  | zero=>intros; rfl
  | succ F ih =>
    intro a b c d e f g
    have h1:bm (F+1) a b c d e f g=jl ad bF aG (fun lP lQ my tO Er Es=>bm F lP lQ my tO Er Es g) a b c d e f g:=rfl
    have h2:aU bF (F+1) a b c d e f g=jl ad bF aG (fun lP lQ my tO Er Es=>aU bF F lP lQ my tO Er Es g) a b c d e f g:=rfl
    rw[h1,h2]
    simp only[ih]

theorem Uh {R:Type} (v:Json) (hr:gR v 1=true) (hl:Le v=true) (hb:(rK v).length≤100000000000) (k:aj→Option R):dA v k=k (rK v):=by
  have e0:dA v k=Bh eB fg v k:=rfl
  rw[e0]
  unfold Bh
  simp only[Json.eta]
  rw[Ub v hl,hr,Bool.not_true,cond_false]
  have e1:fg v (fun y3=>k (s7 y3))=xn bc ah ad ag da bm v (fun y3=>k (s7 y3)):=rfl
  rw[e1]
  obtain ⟨H0,KH,VZ,htx,N3⟩:=B9.1 hl
  have DT:∀(z:aj) (e:aj→List Int→Option R) (F:Nat) (s':aj),(v.kind=7→v.names.length=v.items.length∧∀t∈v.names,gM t=true∧t.length≤10000000000)→gV v.items (1+1)=true→v.items.length<F→(s'++Ac v 0).length≤100000000000 →
      aU bF F z v.items (v.items.length:Int) 0 (zs s') v e=e z (zs (s'++Ac v 0)):=fun z e F s' h7 hi hF pT =>
    Nz bF z v KH h7 (fun x hx s k hb=>write_N (x.depth+2) x (1+1) (HV hi hx) (F7 VZ hx) (by omega) s k hb) e F 0 s' (by omega) (by omega) pT
  cases oz.1 hr with
  | name kd _ hd hk =>
    rcases hk with rfl|rfl|rfl
    · show ag po (fun y3 y4=>k (s7 y4))=k po
      rw[wsn po (by decide),tT]
    · show ag ly (fun y3 y4=>k (s7 y4))=k ly
      rw[wsn ly (by decide),tT]
    · show ag sJ (fun y3 y4=>k (s7 y4))=k sJ
      rw[wsn sJ (by decide),tT]
  | num nm _ hd QK =>
    have NP:(zX nm).length≤100000000000:=hb
    show bc ⟨nm.aB,nm.exp⟩ (fun y9=>ag y9 (fun yA wE=>k (s7 wE)))=k (zX nm)
    rw[Pg]
    show ag (zX nm) (fun yA wE=>k (s7 wE))=k (zX nm)
    rw[wsn _ NP,tT]
  | text t _ hd ht =>
    have NP:(Ld t).length≤100000000000:=hb
    show bj t (fun y2 y3=>ag y2 (fun y4 y5=>k (s7 y5)))=k (Ld t)
    obtain ⟨rs,XT,hc,rfl,_,hq⟩|⟨h,_⟩:=Kc (R:=R) t htx
    · rw[hq,Jg XT]
      rw[Jg XT]at NP
      show ag (qt rs) (fun y4 y5=>k (s7 y5))=k (qt rs)
      rw[wsn _ NP,tT]
    · rw[ht]at h; cases h
  | arr is _ hd hi =>
      have NP:(91::(pK is true ++ [93]):aj).length≤100000000000:=hb
      simp only[List.length_append,List.length_cons,List.length_nil]at NP
      show bm _ [91,93] is (is.length:Int) 0 (zs ([] ++ [91])) ⟨6,⟨0,0⟩, [], [],is⟩ (fun Oi NR=>cU (decide ((1:Int)<(Oi.length:Int))) (ad ((Oi.getD 1 0).toNat:Int) NR (fun Qm=>k (s7 Qm))))=k (91::(pK is true ++ [93]))
      simp only at DT
      have hz:Ac ⟨6,⟨0,0⟩, [], [],is⟩ 0=pK is true:=rfl
      rw[hz]at DT
      rw[NA,DT _ _ _ _ (fun h=>by cases h) hi]
      rotate_left
      · simp only[List.length_cons,List.length_nil]; omega
      · simp only[List.length_append,List.length_cons,List.length_nil]; omega
      show ad ((93:UInt8).toNat:Int) (zs (([] ++ [91])++pK is true)) (fun NS=>k (s7 NS))=_
      rw[wb _ _ (by unfold I1; simp only[List.length_append,List.length_cons,List.length_nil]; omega),tT]
      simp only[List.append_assoc,List.cons_append,List.nil_append]
  | obj ns is _ hd hlen hu hi =>
      have NP:(123::(oQ ns is true ++ [125]):aj).length≤100000000000:=hb
      simp only[List.length_append,List.length_cons,List.length_nil]at NP
      show bm _ [123,125] is (is.length:Int) 0 (zs ([] ++ [123])) ⟨7,⟨0,0⟩, [],ns,is⟩ (fun Oi NR=>cU (decide ((1:Int)<(Oi.length:Int))) (ad ((Oi.getD 1 0).toNat:Int) NR (fun Qm=>k (s7 Qm))))=k (123::(oQ ns is true ++ [125]))
      simp only at DT
      have hz:Ac ⟨7,⟨0,0⟩, [],ns,is⟩ 0=oQ ns is true:=rfl
      rw[hz]at DT
      rw[NA,DT _ _ _ _ (fun _=>⟨hlen,fun t ht=>⟨EF ns [] hu t ht,N3 t ht⟩⟩) hi]
      rotate_left
      · simp only[List.length_cons,List.length_nil]; omega
      · simp only[List.length_append,List.length_cons,List.length_nil]; omega
      show ad ((125:UInt8).toNat:Int) (zs (([] ++ [123])++oQ ns is true)) (fun NS=>k (s7 NS))=_
      rw[wb _ _ (by unfold I1; simp only[List.length_append,List.length_cons,List.length_nil]; omega),tT]
      simp only[List.append_assoc,List.cons_append,List.nil_append]

end Go.Proofs.YtmlkkgfenfdndaaGreatDoor

namespace Go.ay
open Go.RowKit Go.Proofs.YtmlkkgfenfdndaaGreatDoor Go.ChangeShapes Go.WideShapes

mutual
inductive Wt:Nat→V→Prop where
  | int {n:Nat} {k:IntKind} {z:Int} (h1:1≤n) (h:k.has z):Wt n (.int k z)
  | bool {n:Nat} (h1:1≤n) (b:Bool):Wt n (.bool b)
  | str {n:Nat} {s:aj} (h:s.length+1≤n):Wt n (.str s)
  | sl {n m:Nat} {T:Ty} {l:List T.den} (h:m+1≤n) (he:Sq m (l.map T.cells)):Wt n (.sl T l .no)
inductive NU:Nat→List V→Prop where
  | nil:NU 0 []
  | cons {a b:Nat} {v:V} {vs:List V} (h:Wt a v) (t:NU b vs):NU (a+b) (v::vs)
inductive Sq:Nat→List (List V)→Prop where
  | nil:Sq 0 []
  | cons {a b:Nat} {v:List V} {vs:List (List V)} (h:NU a v) (t:Sq b vs):Sq (a+b) (v::vs)
end

theorem NU.append:∀ {x y:List V} {a b:Nat},NU a x→NU b y→NU (a+b) (x++y)
  | [],_,_,_, .nil,h=>by rw[Nat.zero_add]; exact h
  | v::x,y,_,b, .cons (a:=p) (b:=q) h t,h'=>by
    rw[Nat.add_assoc]
    exact .cons h (NU.append t h')
theorem Wt.one {p:fb} {x:p.den} {n:Nat} (h:Wt n (p.enc x)):NU n [p.enc x] := .cons (b:=0) h .nil

section
variable {H:Type} {enc:TypeId × Value→H} {P:Program} {tt:dM} {w:World} {spare:Nat→Bool} {held:Bool}

def qN (w:World) (N:Nat) (ls:List fb) (cs:List Value):Prop:=∃vs n,CM ls vs∧cH w [] MF vs cs∧NU n vs∧n≤N
theorem qN.append {N M:Nat} {a b:List fb} {x y:List Value} (h:qN w N a x) (k:qN w M b y):qN w (N+M) (a++b) (x++y):=by
  obtain ⟨u,n,h1,h2,h3,h4⟩:=h
  obtain ⟨v,m,k1,k2,k3,k4⟩:=k
  exact ⟨u++v,n+m,h1.append k1,h2.append k2,h3.append k3,by omega⟩
theorem qN.nil {N:Nat}:qN w N [] []:=⟨[],0, .nil, .nil, .nil,Nat.zero_le _⟩
theorem qN.one {N:Nat} {p:fb} {x:p.den} {d:Value} (h:dH w [] MF (p.enc x) d) (s:Wt N (p.enc x)):qN w N [p] [d] :=
  ⟨[p.enc x],N, .one p x, .cons h .nil,Wt.one s,Nat.le_refl _⟩
theorem qN.le {N M:Nat} {ls:List fb} {cs:List Value} (h:qN w N ls cs) (hm:N≤M):qN w M ls cs:=by
  obtain ⟨u,n,h1,h2,h3,h4⟩:=h
  exact ⟨u,n,h1,h2,h3,by omega⟩
theorem Vg {T:Ty}:∀(l:List T.den) (es:List (DataW H)),l.length=es.length→(∀(i:Nat) (y:T.den) (e:DataW H),l[i]? = some y→es[i]? = some e→∃n,NU n (T.cells y)∧n≤Rows.uptoBulk e)→∃m,Sq m (l.map T.cells)∧m≤Rows.uptoBulkAll es
  | [],es,_,_=>⟨0, .nil,Nat.zero_le _⟩
  | y::l, [],h,_=>by cases h
  | y::l,e::es,h,hh=>by
    obtain ⟨n,h1,h2⟩:=hh 0 y e rfl rfl
    obtain ⟨m,h3,h4⟩:=Vg l es (by simpa using h) fun i y e hy he=>hh (i+1) y e hy he
    exact ⟨n+m, .cons h1 h3,by simp only[Rows.uptoBulkAll]; omega⟩

theorem Jj {n m:Nat} (ih:∀(t:TypeId) (cs:List Value) (x:DataW H × List MemPlace) (ls:List fb),DataW.trod enc P w 0 spare held n t cs=some x→oj P tt m t=some ls→Rows.uptoBulk x.1≤mx→qN w (Rows.uptoBulk x.1) ls cs) (cs:List Value) :
    ∀(fs:List Field) (j:Nat) (xs:List (DataW H × List MemPlace)) (ls:List fb),(fs.mapM fun f=>DataW.trod enc P w 0 spare held n f.type ((cs.drop f.offset).take (P.cellsOf f.type)))=some xs →
      FH P (oj P tt m) fs j cs.length=some ls→Rows.uptoBulkAll (xs.map (·.1))≤mx→qN w (Rows.uptoBulkAll (xs.map (·.1))) ls (cs.drop j)
  | [],j,xs,ls,_,hl,_=>by
    unfold FH at hl
    split at hl
    · rename_i hj
      cases hl
      rw[List.drop_eq_nil_of_le (by omega)]
      exact .nil
    · cases hl
  | f::fs,j,xs,ls,hx,hl,hb=>by
    simp only[List.mapM_cons,Option.pure_def,Option.bind_eq_bind,Option.bind_eq_some_iff]at hx
    obtain ⟨y,hy,ys,hys,e⟩:=hx
    cases e
    simp only[List.map_cons,Rows.uptoBulkAll]at hb
    unfold FH at hl
    split at hl
    · rename_i ho
      split at hl
      · rename_i a ha
        split at hl
        · rename_i qS
          split at hl
          · rename_i b pT
            cases hl
            rw[ho]at hy
            have r1:=ih _ _ _ _ hy ha (by omega)
            have r2:=Jj ih cs fs (j+a.length) ys b hys pT (by omega)
            have e:cs.drop j=(cs.drop j).take (P.cellsOf f.type)++cs.drop (j+a.length):=by
              rw[←qS,←List.drop_drop]
              exact (List.take_append_drop a.length (cs.drop j)).symm
            rw[e]
            exact r1.append r2
          · cases hl
        · cases hl
      · cases hl
    · cases hl

theorem Pp {n m:Nat} {e:TypeId} (ih:∀(t:TypeId) (cs:List Value) (x:DataW H × List MemPlace) (ls:List fb),DataW.trod enc P w 0 spare held n t cs=some x→oj P tt m t=some ls→Rows.uptoBulk x.1≤mx→qN w (Rows.uptoBulk x.1) ls cs) (cs:List Value) {a:List fb} (ha:oj P tt m e=some a) :
    ∀(k i:Nat) (ls:List fb) (es:List (DataW H)),es.length=k→(∀q y,es[q]? = some y→∃x,DataW.trod enc P w 0 spare held n e ((cs.drop ((i+q)*P.cellsOf e)).take (P.cellsOf e))=some x∧x.1=y)→Rows.uptoBulkAll es≤mx →
      yw (some a) (P.cellsOf e) k (i*P.cellsOf e) cs.length=some ls→qN w (Rows.uptoBulkAll es) ls (cs.drop (i*P.cellsOf e))
  | 0,i,ls,es,_,_,_,hl=>by
    unfold yw at hl
    split at hl
    · rename_i hj
      cases hl
      rw[List.drop_eq_nil_of_le (by omega)]
      exact .nil
    · cases hl
  | k+1,i,ls, [],h0,hx,hbm,hl=>by cases h0
  | k+1,i,ls,y0::es,h0,hx,hbm,hl=>by
    unfold yw at hl
    simp only at hl
    split at hl
    · rename_i qS
      split at hl
      · rename_i b pT
        cases hl
        obtain ⟨x,h1,rfl⟩:=hx 0 y0 rfl
        simp only[Rows.uptoBulkAll]at hbm ⊢
        have r1:=ih _ _ _ _ h1 ha (by omega)
        rw[qS]at pT
        have e1:i*P.cellsOf e+P.cellsOf e=(i+1)*P.cellsOf e:=by rw[Nat.add_mul]; omega
        rw[e1]at pT
        have r2:=Pp ih cs ha k (i+1) b es (by simpa using h0) (fun q y hq=>by
          have:=hx (q+1) y hq
          rw[show i+(q+1)=i+1+q by omega]at this
          exact this) (by omega) pT
        have e:cs.drop (i*P.cellsOf e)=(cs.drop (i*P.cellsOf e)).take (P.cellsOf e)++cs.drop ((i+1)*P.cellsOf e):=by
          rw[←e1,←List.drop_drop]
          exact (List.take_append_drop _ _).symm
        rw[e]
        exact r1.append r2
      · cases hl
    · cases hl

theorem HX (zB:Iz P tt):∀(n:Nat) (t:TypeId) (cs:List Value) (x:DataW H × List MemPlace) (m:Nat) (ls:List fb),DataW.trod enc P w 0 spare held n t cs=some x→oj P tt m t=some ls →
    Rows.uptoBulk x.1≤mx→qN w (Rows.uptoBulk x.1) ls cs
  | 0,_,_,_,_,_,h,_,_=>by simp[DataW.trod]at h
  | n+1,t,cs,x,0,ls,_,hl,_=>by simp[oj]at hl
  | n+1,t,cs,x,m+1,ls,h,hl,hb=>by
    have ih:∀(t:TypeId) (cs:List Value) (x:DataW H × List MemPlace) (ls:List fb),DataW.trod enc P w 0 spare held n t cs=some x→oj P tt m t=some ls→Rows.uptoBulk x.1≤mx→qN w (Rows.uptoBulk x.1) ls cs :=
      fun t cs x ls h1 h2 h3=>HX zB n t cs x m ls h1 h2 h3
    have ih8:∀(t:TypeId) (cs:List Value) (x:DataW H × List MemPlace) (ls:List fb),DataW.trod enc P w 0 spare held n t cs=some x→oj P tt 8 t=some ls→Rows.uptoBulk x.1≤mx→qN w (Rows.uptoBulk x.1) ls cs :=
      fun t cs x ls h1 h2 h3=>HX zB n t cs x 8 ls h1 h2 h3
    unfold oj at hl
    unfold DataW.trod at h
    cases hu:P.underlying t with
    | none=>rw[hu]at hl; cases hl
    | some u =>
      rw[hu]at hl h
      cases u <;> simp only at hl <;> try (first|cases hl)
      case some.bool.refl =>
        rcases cs with _|⟨c,_|⟨c2,r⟩⟩
        · simp at h
        · cases c <;> simp at h
          exact .one (p := .bool) (.bool _) (.bool (IA _) _)
        · simp at h
      case some.int.refl k =>
        rcases cs with _|⟨c,_|⟨c2,r⟩⟩
        · simp at h
        · cases c <;> simp at h
          rename_i k' z
          obtain ⟨⟨rfl,hw⟩,_⟩:=h
          have hk:IntKind.has k' z:=by
            simp only[Lit.wf,Bool.and_eq_true,decide_eq_true_eq]at hw
            exact hw
          exact .one (p := .int k') (x:=z) (.int hk) (.int (IA _) hk)
        · simp at h
      case some.string.refl =>
        rcases cs with _|⟨c,_|⟨c2,r⟩⟩
        · simp at h
        · cases c <;> simp at h
          rename_i s
          obtain ⟨hs,rfl⟩:=h
          have pT:s.data.toList.length+1≤mx:=by simp only[Rows.uptoBulk]at hb; omega
          have qS:s.size≤mx:=by
            have e:s.data.toList.length=s.size:=by rw[Array.length_toList]; rfl
            omega
          exact .one (p := .str) (x:=s.data.toList) (.str qS) (.str (by simp only[Rows.uptoBulk]; omega))
        · simp at h
      case some.slice e =>
        split at hl <;> try (first|cases hl)
        rename_i T hT
        split at hl <;> try (first|cases hl)
        rename_i qS
        rcases cs with _|⟨c,_|⟨c2,r⟩⟩
        · simp at h
        · cases c <;> try (simp at h; done)
          rename_i A len cap
          cases A with
          | none =>
            have h0:len=0∧cap=0:=by
              split at h <;> simp_all
            obtain ⟨rfl,rfl⟩:=h0
            refine .one (p := .sl T) (x := []) ?_ (.sl (m:=0) (IA _) .nil)
            exact dH.sl (T:=T) (l := []) (t := .no) (A:=none) (cap:=0) (fun _ _=>undef) (Nat.le_refl _) (Nat.zero_le _) (fun i j hi=>by simp at hi) (fun i j x v hx=>by simp at hx) (by simp) (by simp)
          | some a =>
            simp only[Nat.zero_le,true_and]at h
            split at h <;> try (first|cases h)
            rename_i hc
            simp only[Option.bind_eq_some_iff,Option.map_eq_some_iff]at h
            obtain ⟨elems,he,rest,hr,rfl⟩:=h
            obtain ⟨g1,g2⟩:=IB he
            simp only[List.length_range]at g1
            simp only[Rows.uptoBulk]at hb
            have hlen:len≤mx:=by
              have:=Y5 (elems.map (·.1))
              simp only[List.length_map]at this
              omega
            have key:∀i,i<len→∃y:T.den,∃ds:List Value,w.cells? 0 (a.add (i*P.cellsOf e)) (P.cellsOf e)=some ds∧cH w [] MF (T.cells y) ds∧∃n,NU n (T.cells y)∧∀z,elems[i]? = some z→n≤Rows.uptoBulk z.1:=by
              intro i hi
              obtain ⟨z,hz,hz2⟩:=g2 i i (by simp[hi])
              simp only[Option.bind_eq_some_iff]at hz2
              obtain ⟨ds,hd1,XP⟩:=hz2
              have hmem:z.1∈elems.map (·.1):=List.mem_map.2 ⟨z,List.mem_of_getElem? hz,rfl⟩
              obtain ⟨vs,nw,⟨q,rfl⟩,k2,k3,k4⟩:=ih8 _ _ _ _ XP (zB e T hT) (by have:=Wq hmem; omega)
              obtain ⟨y,hy⟩:=Iy T q
              rw[←hy]at k2 k3
              exact ⟨y,ds,hd1,k2,nw,k3,fun z' hz'=>by rw[hz]at hz'; cases hz'; exact k4⟩
            obtain ⟨l,hl1,QG⟩:=UP _ len key
            obtain ⟨mm,hm1,hm2⟩:=Vg l (elems.map (·.1)) (by simp; omega) fun i y e hy he=>by
              obtain ⟨_,_,_,nn,hn1,hn2⟩:=QG i y hy
              rw[List.getElem?_map]at he
              obtain ⟨z,hz,rfl⟩:=Option.map_eq_some_iff.1 he
              exact ⟨nn,hn1,hn2 z hz⟩
            refine .one (p := .sl T) (x:=l) ?_ (.sl (m:=mm) (by simp only[Rows.uptoBulk]; omega) hm1)
            · have hv:(Value.slice (some a) len cap) = .slice (some a) l.length cap:=by rw[hl1]
              rw[hv]
              refine dH.sl (fun i j=>(w.cell? ((a.add (i*T.sz)).add j)).getD undef) (by omega) (Nat.le_trans hc.2 (Nat.le_of_ble_eq_true rfl)) (fun i j hi hj => ?_) (fun i j y v hy hv => ?_) (by simp) (by simp)
              · obtain ⟨y,hy⟩:∃y,l[i]? = some y:=⟨l[i],by simp[hi]⟩
                obtain ⟨ds,d1,d2,_⟩:=QG i y hy
                rw[qS]at d1
                obtain ⟨c1,c2⟩:=HD d1
                obtain ⟨v,v1,v2⟩:=c2 j hj
                have ea:a=⟨a.block,a.off,none⟩:=by
                  have hs0:a.spot=none:=by
                    obtain ⟨y0,hy0⟩:∃y,l[0]? = some y:=⟨l[0],by simp⟩
                    obtain ⟨ds0,d01,_,_⟩:=QG 0 y0 hy0
                    rw[qS]at d01
                    obtain ⟨_,c02⟩:=HD d01
                    obtain ⟨v0,_,v02⟩:=c02 0 (Ty.D1 T)
                    simp only[Nat.zero_mul,Addr.add,if_true]at v02
                    exact Wr v02
                  cases a; simp_all
                refine ⟨a.block,a.off,by rw[←ea],?_,free0 _ _⟩
                have e2:=addr_add (a:=a) (by rw[ea]) (i*T.sz) j
                rw[e2,v2]; rfl
              · have hi:i<l.length:=(List.getElem?_eq_some_iff.1 hy).1
                obtain ⟨ds,d1,d2,_⟩:=QG i y hy
                rw[qS]at d1
                obtain ⟨c1,c2⟩:=HD d1
                have hj:j<T.sz:=by rw[←T.lL y]; exact (List.getElem?_eq_some_iff.1 hv).1
                obtain ⟨u,v1,v2⟩:=c2 j hj
                rw[v2]
                exact d2.2 j v u hv v1
        · simp at h
      case some.struct fs =>
        simp only at h
        split at h
        · rename_i Ck
          simp only[Option.map_eq_some_iff]at h
          obtain ⟨xs,hx,rfl⟩:=h
          simp only[Rows.uptoBulk]at hb
          rw[←Ck]at hl
          have:=Jj ih cs fs.toList 0 xs ls hx hl (by omega)
          exact qN.le (by simpa using this) (by simp only[Rows.uptoBulk]; omega)
        · cases h
      case some.array k e =>
        simp only at h
        split at h
        · rename_i Ck
          simp only[Option.map_eq_some_iff]at h
          obtain ⟨xs,hx,rfl⟩:=h
          simp only[Rows.uptoBulk]at hb
          rw[←Ck]at hl
          obtain ⟨g1,g2⟩:=IB hx
          cases ha:oj P tt m e with
          | none =>
            rw[ha]at hl
            cases k with
            | zero =>
              unfold yw at hl
              split at hl
              · rename_i hj
                cases hl
                have:cs = []:=List.eq_nil_of_length_eq_zero hj.symm
                subst this
                exact .nil
              · cases hl
            | succ k=>simp[yw]at hl
          | some a =>
            rw[ha]at hl
            have:=Pp ih cs ha k 0 ls (xs.map (·.1)) (by simpa using g1) (fun q y hy=>by
              rw[List.getElem?_map]at hy
              obtain ⟨z,hz,rfl⟩:=Option.map_eq_some_iff.1 hy
              have hq:q<k:=by
                have:=(List.getElem?_eq_some_iff.1 hz).1
                simp at g1
                omega
              obtain ⟨y2,hy1,hy2⟩:=g2 q q (by simp[hq])
              rw[hz]at hy1
              cases hy1
              exact ⟨z,by rw[Nat.zero_add]; exact hy2,rfl⟩) (by omega) (by simpa using hl)
            exact qN.le (by simpa using this) (by simp only[Rows.uptoBulk]; omega)
        · cases h

theorem aaq {N:Nat} (zB:Iz P tt) {t:TypeId} {v:Value} {d:DataW H} {ps:List MemPlace} {T:Ty} {base:Nat} (ho:UR P t=true) (hl:oj P tt 8 t=some T.leaves) (HF:Value.okWide P w .any base t v)
    (h:DataW.Trod enc P w 0 spare held t v d ps) (hb:Rows.uptoBulk d≤N) (hN:N≤mx):∃x:T.den,dH w [] MF (.agg (T.cells x)) v∧∃n,NU n (T.cells x)∧n≤N:=by
  obtain ⟨n,h⟩:=h
  obtain ⟨vs,nw,⟨x,rfl⟩,h2,h3,h4⟩:=HX zB n t _ _ 8 _ h hl (Nat.le_trans hb hN)
  obtain ⟨y,hy⟩:=Iy T x
  rw[←hy]at h2 h3
  have hc:∃cs,v = .agg cs:=by
    unfold UR at ho
    unfold Value.okWide at HF
    cases hu:P.underlying t with
    | none=>rw[hu]at ho; cases ho
    | some u =>
      rw[hu]at ho HF
      cases u <;> simp only at ho <;> try (first|cases ho) <;> (obtain ⟨cs,hc,_⟩:=HF; exact ⟨cs,hc⟩)
  obtain ⟨cs,rfl⟩:=hc
  exact ⟨y, .agg (by have:=h2.1; simpa [Value.cells]using this) fun j v d hv hd=>h2.2 j v d hv (by simpa [Value.cells]using hd),nw,h3,Nat.le_trans h4 hb⟩
end
end Go.ay

/-
  Functions of the program as pure Lean functions, and the ties; printed by wip/tools/emit.py.
-/
set_option maxRecDepth 100000
namespace Go.Proofs.YtmlkkgfenfdndaaGreatDoor
open Go Go.ay

/-! ### humpyard/humpyardlaw04.Fit -/
abbrev dk (R:Type):Type:=Raw→Int→(Json→Option R)→Option R
abbrev px:List bO := [.agg [.int .i64, .int .i64, .int .i64, .sl (.int .i64), .sl .raw], .leaf (.int .i64)]
abbrev pz:List aH := []
noncomputable def lJ {R:Type} (fn:dk R):bO.av px→aH.av pz→(V→az→Option R)→Option R:=fun x y k=>fn (⟨x.1.1,x.1.2.1,x.1.2.2.1,x.1.2.2.2.1,x.1.2.2.2.2.1⟩:Raw) x.2.1 (fun q0=>k (.agg [.int .i64 q0.kind, .int .i64 q0.num.aB, .int .i64 q0.num.exp, .str q0.text, .sl .str q0.names .no, .sl .json q0.items .no]) [])
abbrev jS (R:Type):Type:=Nat→Int→Int→Int→aj→Bool→Int→Raw→Int→Int→Int→aj→Int→Int→Int→aj→(List aj)→(List Json)→Raw→(Int→Int→Int→aj→Bool→Raw→Int→Int→Int→aj→Int→Int→Int→aj→(List aj)→(List Json)→Raw→Option R)→Option R
abbrev lK (R:Type):Type:=Nat→Int→Int→Int→Raw→Int→Int→Int→aj→Int→Int→Int→aj→(List aj)→(List Json)→(Int→Int→Int→aj→Int→Int→Int→aj→(List aj)→(List Json)→Option R)→Option R
noncomputable def n7 (R:Type) (ca:ja R) (di:mw R) (aJ:dk R) (eW:pC R):Env R:=fun i=>match i with
  | 37=>some (true,(aA wY wZ (C1 ca) bg))
  | 28=>some (true,(aA zE zF (Ef di) bg))
  | 16=>some (true,(aA px pz (lJ aJ) bg))
  | 35=>some (true,(aA AZ A0 (G3 eW) bg))
  | _=>none
theorem Ox (R:Type) (aJ:dk R) (De:ay.Spec.Ok Tryz.prog 16 (aA px pz (lJ aJ) bg)):p8 Tryz.prog (n7 R ca di aJ eW):=by
  intro i b sp h
  unfold n7 at h
  split at h
  · cases h; exact ⟨(EM R _ (aO _)),fun h=>nomatch h⟩
  · cases h; exact ⟨(FL R _ (aO _)),fun h=>nomatch h⟩
  · cases h; exact ⟨De,fun h=>nomatch h⟩
  · cases h; exact ⟨(KQ R _ (aO _)),fun h=>nomatch h⟩
  · cases h

noncomputable def tW {R:Type} (fH:Int→Int→Int→aj→Bool→Int→Raw→Int→Int→Int→aj→Int→Int→Int→aj→(List aj)→(List Json)→Raw→Option R) (x23:Int) (Xx:Int) (Xy:Int) (QJ:aj) (x27:Bool) (x28:Int) (I2:Raw) (U1:Int) (x31:Int) (x32:Int) (x33:aj) (x34:Int) (x35:Int) (x36:Int) (x37:aj) (x38:List aj) (x39:List Json) (Ui:Raw) (e0:Int→Int→Int→aj→Bool→Raw→Int→Int→Int→aj→Int→Int→Int→aj→(List aj)→(List Json)→Raw→Option R):Option R :=
  bif (decide (x28<(x38.length:Int)))then (bif x27 then (fH x23 Xx Xy QJ true (IntKind.i64.wrap (x28+1)) (⟨I2.kind,I2.aB,I2.exp,I2.text,I2.items⟩:Raw) U1 x31 x32 x33 x34 x35 x36 x37 x38 x39 (⟨Ui.kind,Ui.aB,Ui.exp,Ui.text,Ui.items⟩:Raw))else (cU (decide ((0:Int)≤x28)&&decide (x28<x38.length)) (fH x23 Xx Xy QJ ((x38.getD x28.toNat (Ty.ck .str))==QJ) (IntKind.i64.wrap (x28+1)) (⟨I2.kind,I2.aB,I2.exp,I2.text,I2.items⟩:Raw) U1 x31 x32 x33 x34 x35 x36 x37 x38 x39 (⟨Ui.kind,Ui.aB,Ui.exp,Ui.text,Ui.items⟩:Raw))))else (e0 x23 Xx Xy QJ x27 (⟨I2.kind,I2.aB,I2.exp,I2.text,I2.items⟩:Raw) U1 x31 x32 x33 x34 x35 x36 x37 x38 x39 (⟨Ui.kind,Ui.aB,Ui.exp,Ui.text,Ui.items⟩:Raw))
noncomputable def bC {R:Type}:jS R
  | 0,_,_,_,_,_,_,_,_,_,_,_,_,_,_,_,_,_,_,_=>none
  | n+1,lP,lQ,my,tO,Er,Es,K6,K7,K8,K9,Ao,F9,NB,NC,aar,aas,aat,aau,e0=>tW (fun lP lQ my tO Er Es K6 K7 K8 K9 Ao F9 NB NC aar aas aat aau=>bC n lP lQ my tO Er Es K6 K7 K8 K9 Ao F9 NB NC aar aas aat aau e0) lP lQ my tO Er Es K6 K7 K8 K9 Ao F9 NB NC aar aas aat aau e0
noncomputable def tX:Hint := { live := [1,2,4,5,6,7,8,9,10,11],own := [],rows := [],cells := [],drop := [],out := [1,2,4,5,6,7,8,9,10] }
abbrev kL:Type:=Int × Int × Int × aj × Bool × Int × Raw × Int × Int × Int × aj × Int × Int × Int × aj × (List aj) × (List Json) × Raw
noncomputable def rM:kL→St:=fun d=>⟨[.undef, .int .i64 d.1, .ptr 0 0, .undef, .ptr 1 0, .int .i64 d.2.1, .ptr 2 0, .int .i64 d.2.2.1, .ptr 3 0, .str d.2.2.2.1, .bool d.2.2.2.2.1, .int .i64 d.2.2.2.2.2.1, .undef, .undef, .undef, .undef, .undef, .undef, .undef, .undef, .undef, .undef, .undef, .undef, .undef, .undef, .undef, .undef, .undef, .undef, .undef, .undef, .undef, .undef, .undef, .undef, .undef, .undef, .undef, .undef, .undef, .undef, .undef, .undef, .undef, .undef, .undef, .undef, .undef, .undef, .undef, .undef, .undef, .undef, .undef, .undef, .undef, .undef, .undef, .undef, .undef, .undef, .undef, .undef, .undef, .undef, .undef, .undef, .undef, .undef, .undef, .undef, .undef, .undef, .undef, .undef, .undef, .undef, .undef, .undef, .undef, .undef, .undef, .undef, .undef, .undef, .undef, .undef, .undef, .undef, .undef, .undef, .undef, .undef, .undef, .undef, .undef, .undef, .undef, .undef, .undef, .undef, .undef, .undef, .undef], [.cells [.int .i64 d.2.2.2.2.2.2.1.kind, .int .i64 d.2.2.2.2.2.2.1.aB, .int .i64 d.2.2.2.2.2.2.1.exp, .sl (.int .i64) d.2.2.2.2.2.2.1.text .no, .sl .raw d.2.2.2.2.2.2.1.items .no], .cells [.int .i64 d.2.2.2.2.2.2.2.1, .int .i64 d.2.2.2.2.2.2.2.2.1, .int .i64 d.2.2.2.2.2.2.2.2.2.1, .str d.2.2.2.2.2.2.2.2.2.2.1, .cG, .cG], .cells [.int .i64 d.2.2.2.2.2.2.2.2.2.2.2.1, .int .i64 d.2.2.2.2.2.2.2.2.2.2.2.2.1, .int .i64 d.2.2.2.2.2.2.2.2.2.2.2.2.2.1, .str d.2.2.2.2.2.2.2.2.2.2.2.2.2.2.1, .sl .str d.2.2.2.2.2.2.2.2.2.2.2.2.2.2.2.1 (.own 4), .sl .json d.2.2.2.2.2.2.2.2.2.2.2.2.2.2.2.2.1 (.own 5)], .cells [.int .i64 d.2.2.2.2.2.2.2.2.2.2.2.2.2.2.2.2.2.kind, .int .i64 d.2.2.2.2.2.2.2.2.2.2.2.2.2.2.2.2.2.aB, .int .i64 d.2.2.2.2.2.2.2.2.2.2.2.2.2.2.2.2.2.exp, .sl (.int .i64) d.2.2.2.2.2.2.2.2.2.2.2.2.2.2.2.2.2.text .no, .sl .raw d.2.2.2.2.2.2.2.2.2.2.2.2.2.2.2.2.2.items .no], .tok, .tok]⟩
noncomputable def xP {R:Type} (K:Ex→St→Option R) (q0:Int) (q1:Int) (q2:Int) (q3:aj) (q4:Bool) (q5:Raw) (q6:Int) (q7:Int) (q8:Int) (q9:aj) (Ns:Int) (q11:Int) (q12:Int) (q13:aj) (q14:List aj) (q15:List Json) (q16:Raw):Option R:=K (.exit 3) ⟨[.undef, .int .i64 q0, .ptr 0 0, .undef, .ptr 1 0, .int .i64 q1, .ptr 2 0, .int .i64 q2, .ptr 3 0, .str q3, .bool q4, .undef, .undef, .undef, .undef, .undef, .undef, .undef, .undef, .undef, .undef, .undef, .undef, .undef, .undef, .undef, .undef, .undef, .undef, .undef, .undef, .undef, .undef, .undef, .undef, .undef, .undef, .undef, .undef, .undef, .undef, .undef, .undef, .undef, .undef, .undef, .undef, .undef, .undef, .undef, .undef, .undef, .undef, .undef, .undef, .undef, .undef, .undef, .undef, .undef, .undef, .undef, .undef, .undef, .undef, .undef, .undef, .undef, .undef, .undef, .undef, .undef, .undef, .undef, .undef, .undef, .undef, .undef, .undef, .undef, .undef, .undef, .undef, .undef, .undef, .undef, .undef, .undef, .undef, .undef, .undef, .undef, .undef, .undef, .undef, .undef, .undef, .undef, .undef, .undef, .undef, .undef, .undef, .undef, .undef], [.cells [.int .i64 q5.kind, .int .i64 q5.aB, .int .i64 q5.exp, .sl (.int .i64) q5.text .no, .sl .raw q5.items .no], .cells [.int .i64 q6, .int .i64 q7, .int .i64 q8, .str q9, .cG, .cG], .cells [.int .i64 Ns, .int .i64 q11, .int .i64 q12, .str q13, .sl .str q14 (.own 4), .sl .json q15 (.own 5)], .cells [.int .i64 q16.kind, .int .i64 q16.aB, .int .i64 q16.exp, .sl (.int .i64) q16.text .no, .sl .raw q16.items .no], .tok, .tok]⟩
noncomputable def yW {R:Type} (K:Ex→St→Option R) (rc:kL→Option R) (d:kL):Option R:=tW (fun z0 z1 z2 z3 z4 z5 z6 z7 z8 z9 Qo vU z12 RS z14 z15 z16 z17=>rc (z0,z1,z2,z3,z4,z5,z6,z7,z8,z9,Qo,vU,z12,RS,z14,z15,z16,z17)) d.1 d.2.1 d.2.2.1 d.2.2.2.1 d.2.2.2.2.1 d.2.2.2.2.2.1 d.2.2.2.2.2.2.1 d.2.2.2.2.2.2.2.1 d.2.2.2.2.2.2.2.2.1 d.2.2.2.2.2.2.2.2.2.1 d.2.2.2.2.2.2.2.2.2.2.1 d.2.2.2.2.2.2.2.2.2.2.2.1 d.2.2.2.2.2.2.2.2.2.2.2.2.1 d.2.2.2.2.2.2.2.2.2.2.2.2.2.1 d.2.2.2.2.2.2.2.2.2.2.2.2.2.2.1 d.2.2.2.2.2.2.2.2.2.2.2.2.2.2.2.1 d.2.2.2.2.2.2.2.2.2.2.2.2.2.2.2.2.1 d.2.2.2.2.2.2.2.2.2.2.2.2.2.2.2.2.2 (xP K)
noncomputable def oe {R:Type} (K:Ex→St→Option R) (n:Nat) (d:kL):Option R:=bC n d.1 d.2.1 d.2.2.1 d.2.2.2.1 d.2.2.2.2.1 d.2.2.2.2.2.1 d.2.2.2.2.2.2.1 d.2.2.2.2.2.2.2.1 d.2.2.2.2.2.2.2.2.1 d.2.2.2.2.2.2.2.2.2.1 d.2.2.2.2.2.2.2.2.2.2.1 d.2.2.2.2.2.2.2.2.2.2.2.1 d.2.2.2.2.2.2.2.2.2.2.2.2.1 d.2.2.2.2.2.2.2.2.2.2.2.2.2.1 d.2.2.2.2.2.2.2.2.2.2.2.2.2.2.1 d.2.2.2.2.2.2.2.2.2.2.2.2.2.2.2.1 d.2.2.2.2.2.2.2.2.2.2.2.2.2.2.2.2.1 d.2.2.2.2.2.2.2.2.2.2.2.2.2.2.2.2.2 (xP K)
abbrev kM:List bO := [.leaf (.undef), .leaf (.int .i64), .leaf (.ptr 0 0), .leaf (.undef), .leaf (.ptr 1 0), .leaf (.int .i64), .leaf (.ptr 2 0), .leaf (.int .i64), .leaf (.ptr 3 0), .leaf (.str), .leaf (.bool), .leaf (.int .i64), .leaf (.undef), .leaf (.undef), .leaf (.undef), .leaf (.undef), .leaf (.undef), .leaf (.undef), .leaf (.undef), .leaf (.undef), .leaf (.undef), .leaf (.undef), .leaf (.undef), .leaf (.undef), .leaf (.undef), .leaf (.undef), .leaf (.undef), .leaf (.undef), .leaf (.undef), .leaf (.undef), .leaf (.undef), .leaf (.undef), .leaf (.undef), .leaf (.undef), .leaf (.undef), .leaf (.undef), .leaf (.undef), .leaf (.undef), .leaf (.undef), .leaf (.undef), .leaf (.undef), .leaf (.undef), .leaf (.undef), .leaf (.undef), .leaf (.undef), .leaf (.undef), .leaf (.undef), .leaf (.undef), .leaf (.undef), .leaf (.undef), .leaf (.undef), .leaf (.undef), .leaf (.undef), .leaf (.undef), .leaf (.undef), .leaf (.undef), .leaf (.undef), .leaf (.undef), .leaf (.undef), .leaf (.undef), .leaf (.undef), .leaf (.undef), .leaf (.undef), .leaf (.undef), .leaf (.undef), .leaf (.undef), .leaf (.undef), .leaf (.undef), .leaf (.undef), .leaf (.undef), .leaf (.undef), .leaf (.undef), .leaf (.undef), .leaf (.undef), .leaf (.undef), .leaf (.undef), .leaf (.undef), .leaf (.undef), .leaf (.undef), .leaf (.undef), .leaf (.undef), .leaf (.undef), .leaf (.undef), .leaf (.undef), .leaf (.undef), .leaf (.undef), .leaf (.undef), .leaf (.undef), .leaf (.undef), .leaf (.undef), .leaf (.undef), .leaf (.undef), .leaf (.undef), .leaf (.undef), .leaf (.undef), .leaf (.undef), .leaf (.undef), .leaf (.undef), .leaf (.undef), .leaf (.undef), .leaf (.undef), .leaf (.undef), .leaf (.undef), .leaf (.undef), .leaf (.undef)]
abbrev kN:List aH := [.cells [.int .i64, .int .i64, .int .i64, .sl (.int .i64), .sl .raw], .cells [.int .i64, .int .i64, .int .i64, .str, .cG, .cG], .cells [.int .i64, .int .i64, .int .i64, .str, .NQ .str 4, .NQ .json 5], .cells [.int .i64, .int .i64, .int .i64, .sl (.int .i64), .sl .raw], .tok, .tok]
noncomputable def yX (x:bO.av kM) (y:aH.av kN):Nat:=(Int.natAbs x.2.1+Int.natAbs x.2.2.2.2.2.1+Int.natAbs x.2.2.2.2.2.2.2.1+List.length x.2.2.2.2.2.2.2.2.2.1+Int.natAbs x.2.2.2.2.2.2.2.2.2.2.2.1+Raw.fu (⟨y.1.1,y.1.2.1,y.1.2.2.1,y.1.2.2.2.1,y.1.2.2.2.2.1⟩:Raw)+Int.natAbs y.2.1.1+Int.natAbs y.2.1.2.1+Int.natAbs y.2.1.2.2.1+List.length y.2.1.2.2.2.1+Int.natAbs y.2.2.1.1+Int.natAbs y.2.2.1.2.1+Int.natAbs y.2.2.1.2.2.1+List.length y.2.2.1.2.2.2.1+List.length y.2.2.1.2.2.2.2.1+List.length y.2.2.1.2.2.2.2.2.1+Raw.fu (⟨y.2.2.2.1.1,y.2.2.2.1.2.1,y.2.2.2.1.2.2.1,y.2.2.2.1.2.2.2.1,y.2.2.2.1.2.2.2.2.1⟩:Raw)+64)
noncomputable def yY (x:bO.av kM) (y:aH.av kN):kL:=(x.2.1,x.2.2.2.2.2.1,x.2.2.2.2.2.2.2.1,x.2.2.2.2.2.2.2.2.2.1,x.2.2.2.2.2.2.2.2.2.2.1,x.2.2.2.2.2.2.2.2.2.2.2.1,(⟨y.1.1,y.1.2.1,y.1.2.2.1,y.1.2.2.2.1,y.1.2.2.2.2.1⟩:Raw),y.2.1.1,y.2.1.2.1,y.2.1.2.2.1,y.2.1.2.2.2.1,y.2.2.1.1,y.2.2.1.2.1,y.2.2.1.2.2.1,y.2.2.1.2.2.2.1,y.2.2.1.2.2.2.2.1,y.2.2.1.2.2.2.2.2.1,(⟨y.2.2.2.1.1,y.2.2.2.1.2.1,y.2.2.2.1.2.2.1,y.2.2.2.1.2.2.2.1,y.2.2.2.1.2.2.2.2.1⟩:Raw))
noncomputable def xQ {R:Type} (L:jS R):bO.av kM→aH.av kN→(Ex→St→Option R)→Option R:=fun x y K=>L (yX x y) x.2.1 x.2.2.2.2.2.1 x.2.2.2.2.2.2.2.1 x.2.2.2.2.2.2.2.2.2.1 x.2.2.2.2.2.2.2.2.2.2.1 x.2.2.2.2.2.2.2.2.2.2.2.1 (⟨y.1.1,y.1.2.1,y.1.2.2.1,y.1.2.2.2.1,y.1.2.2.2.2.1⟩:Raw) y.2.1.1 y.2.1.2.1 y.2.1.2.2.1 y.2.1.2.2.2.1 y.2.2.1.1 y.2.2.1.2.1 y.2.2.1.2.2.1 y.2.2.1.2.2.2.1 y.2.2.1.2.2.2.2.1 y.2.2.1.2.2.2.2.2.1 (⟨y.2.2.2.1.1,y.2.2.2.1.2.1,y.2.2.2.1.2.2.1,y.2.2.2.1.2.2.2.1,y.2.2.2.1.2.2.2.2.1⟩:Raw) (xP K)
noncomputable def mq {R:Type} (ca:ja R) (aJ:dk R) (bC:jS R) (fH:Int→Int→Int→Raw→Int→Int→Int→aj→Int→Int→Int→aj→(List aj)→(List Json)→Option R) (x7:Int) (x8:Int) (x9:Int) (yQ:Raw) (Jr:Int) (Lj:Int) (Uc:Int) (UY:aj) (pZ:Int) (tE:Int) (nf:Int) (tF:aj) (CS:List aj) (AM:List Json) (e0:Int→Int→Int→aj→Int→Int→Int→aj→(List aj)→(List Json)→Option R):Option R :=
  bif (decide (x9<(yQ.items.length:Int)))then (bif (decide (x9<(12:Int)))then (bif (decide (x7<(16:Int)))then (cU (decide ((0:Int)≤x9)&&decide (x9<yQ.items.length)) (cU (decide ((0:Int)≤(min (((yQ.items.getD x9.toNat (Ty.ck .raw)).text).length:Int) 8))&&decide ((min (((yQ.items.getD x9.toNat (Ty.ck .raw)).text).length:Int) 8)≤((yQ.items.getD x9.toNat (Ty.ck .raw)).text).length)) (cU (decide ((0:Int)≤(min (((yQ.items.getD x9.toNat (Ty.ck .raw)).text).length:Int) 8))) (ca ((((yQ.items.getD x9.toNat (Ty.ck .raw)).text).drop 0).take ((min (((yQ.items.getD x9.toNat (Ty.ck .raw)).text).length:Int) 8).toNat - 0)) (fun Ql=>bif (x8==7)then (bC (Int.natAbs x7+Int.natAbs x8+Int.natAbs x9+List.length Ql+Int.natAbs 0+Raw.fu (⟨yQ.kind,yQ.aB,yQ.exp,yQ.text,yQ.items⟩:Raw)+Int.natAbs Jr+Int.natAbs Lj+Int.natAbs Uc+List.length UY+Int.natAbs pZ+Int.natAbs tE+Int.natAbs nf+List.length tF+List.length CS+List.length AM+Raw.fu (⟨(yQ.items.getD x9.toNat (Ty.ck .raw)).kind,(yQ.items.getD x9.toNat (Ty.ck .raw)).aB,(yQ.items.getD x9.toNat (Ty.ck .raw)).exp,(yQ.items.getD x9.toNat (Ty.ck .raw)).text,(yQ.items.getD x9.toNat (Ty.ck .raw)).items⟩:Raw)+64) x7 x8 x9 Ql false 0 (⟨yQ.kind,yQ.aB,yQ.exp,yQ.text,yQ.items⟩:Raw) Jr Lj Uc UY pZ tE nf tF CS AM (⟨(yQ.items.getD x9.toNat (Ty.ck .raw)).kind,(yQ.items.getD x9.toNat (Ty.ck .raw)).aB,(yQ.items.getD x9.toNat (Ty.ck .raw)).exp,(yQ.items.getD x9.toNat (Ty.ck .raw)).text,(yQ.items.getD x9.toNat (Ty.ck .raw)).items⟩:Raw) (fun O7 RY RZ Xw WJ Ol Xz ZA ZB ZC XA ZD ZE y55 WK WL WM=>bif WJ then (fH O7 RY (IntKind.i64.wrap (RZ+1)) (⟨Ol.kind,Ol.aB,Ol.exp,Ol.text,Ol.items⟩:Raw) Xz ZA ZB ZC XA ZD ZE y55 WK WL)else (cU (decide ((WK.length+1)*16≤140737488355328)) (aJ (⟨WM.kind,WM.aB,WM.exp,WM.text,WM.items⟩:Raw) (IntKind.i64.wrap (O7+1)) (fun TW=>cU (decide ((WL.length+1)*88≤140737488355328)) (fH O7 RY (IntKind.i64.wrap (RZ+1)) (⟨Ol.kind,Ol.aB,Ol.exp,Ol.text,Ol.items⟩:Raw) Xz ZA ZB ZC XA ZD ZE y55 (WK++([Xw]:List aj)) (WL++([(⟨TW.kind,⟨TW.num.aB,TW.num.exp⟩,TW.text,TW.names,TW.items⟩:Json)]:List Json))))))))else (aJ (⟨(yQ.items.getD x9.toNat (Ty.ck .raw)).kind,(yQ.items.getD x9.toNat (Ty.ck .raw)).aB,(yQ.items.getD x9.toNat (Ty.ck .raw)).exp,(yQ.items.getD x9.toNat (Ty.ck .raw)).text,(yQ.items.getD x9.toNat (Ty.ck .raw)).items⟩:Raw) (IntKind.i64.wrap (x7+1)) (fun UW=>cU (decide ((AM.length+1)*88≤140737488355328)) (fH x7 x8 (IntKind.i64.wrap (x9+1)) (⟨yQ.kind,yQ.aB,yQ.exp,yQ.text,yQ.items⟩:Raw) Jr Lj Uc UY pZ tE nf tF CS (AM++([(⟨UW.kind,⟨UW.num.aB,UW.num.exp⟩,UW.text,UW.names,UW.items⟩:Json)]:List Json))))))))))else (e0 Jr Lj Uc UY pZ tE nf tF CS AM))else (e0 Jr Lj Uc UY pZ tE nf tF CS AM))else (e0 Jr Lj Uc UY pZ tE nf tF CS AM)
noncomputable def bp {R:Type} (aJ:dk R):lK R
  | 0,_,_,_,_,_,_,_,_,_,_,_,_,_,_,_=>none
  | n+1,lP,lQ,my,tO,Er,Es,K6,K7,K8,K9,Ao,F9,NB,NC,e0=>mq ca aJ bC (fun lP lQ my tO Er Es K6 K7 K8 K9 Ao F9 NB NC=>bp aJ n lP lQ my tO Er Es K6 K7 K8 K9 Ao F9 NB NC e0) lP lQ my tO Er Es K6 K7 K8 K9 Ao F9 NB NC e0
noncomputable def tY:Hint := { live := [1,2,4,5,6,7],own := [],rows := [],cells := [(2,4, .str,false),(2,5, .json,false)],drop := [],out := [4,6] }
abbrev kO:Type:=Int × Int × Int × Raw × Int × Int × Int × aj × Int × Int × Int × aj × (List aj) × (List Json)
noncomputable def rN:kO→St:=fun d=>⟨[.undef, .int .i64 d.1, .ptr 0 0, .undef, .ptr 1 0, .int .i64 d.2.1, .ptr 2 0, .int .i64 d.2.2.1, .undef, .undef, .undef, .undef, .undef, .undef, .undef, .undef, .undef, .undef, .undef, .undef, .undef, .undef, .undef, .undef, .undef, .undef, .undef, .undef, .undef, .undef, .undef, .undef, .undef, .undef, .undef, .undef, .undef, .undef, .undef, .undef, .undef, .undef, .undef, .undef, .undef, .undef, .undef, .undef, .undef, .undef, .undef, .undef, .undef, .undef, .undef, .undef, .undef, .undef, .undef, .undef, .undef, .undef, .undef, .undef, .undef, .undef, .undef, .undef, .undef, .undef, .undef, .undef, .undef, .undef, .undef, .undef, .undef, .undef, .undef, .undef, .undef, .undef, .undef, .undef, .undef, .undef, .undef, .undef, .undef, .undef, .undef, .undef, .undef, .undef, .undef, .undef, .undef, .undef, .undef, .undef, .undef, .undef, .undef, .undef, .undef], [.cells [.int .i64 d.2.2.2.1.kind, .int .i64 d.2.2.2.1.aB, .int .i64 d.2.2.2.1.exp, .sl (.int .i64) d.2.2.2.1.text .no, .sl .raw d.2.2.2.1.items .no], .cells [.int .i64 d.2.2.2.2.1, .int .i64 d.2.2.2.2.2.1, .int .i64 d.2.2.2.2.2.2.1, .str d.2.2.2.2.2.2.2.1, .cG, .cG], .cells [.int .i64 d.2.2.2.2.2.2.2.2.1, .int .i64 d.2.2.2.2.2.2.2.2.2.1, .int .i64 d.2.2.2.2.2.2.2.2.2.2.1, .str d.2.2.2.2.2.2.2.2.2.2.2.1, .sl .str d.2.2.2.2.2.2.2.2.2.2.2.2.1 (.own 3), .sl .json d.2.2.2.2.2.2.2.2.2.2.2.2.2 (.own 4)], .tok, .tok]⟩
noncomputable def xR {R:Type} (K:Ex→St→Option R) (q0:Int) (q1:Int) (q2:Int) (q3:aj) (q4:Int) (q5:Int) (q6:Int) (q7:aj) (q8:List aj) (q9:List Json):Option R:=K (.exit 1) ⟨[.undef, .undef, .undef, .undef, .ptr 0 0, .undef, .ptr 1 0, .undef, .undef, .undef, .undef, .undef, .undef, .undef, .undef, .undef, .undef, .undef, .undef, .undef, .undef, .undef, .undef, .undef, .undef, .undef, .undef, .undef, .undef, .undef, .undef, .undef, .undef, .undef, .undef, .undef, .undef, .undef, .undef, .undef, .undef, .undef, .undef, .undef, .undef, .undef, .undef, .undef, .undef, .undef, .undef, .undef, .undef, .undef, .undef, .undef, .undef, .undef, .undef, .undef, .undef, .undef, .undef, .undef, .undef, .undef, .undef, .undef, .undef, .undef, .undef, .undef, .undef, .undef, .undef, .undef, .undef, .undef, .undef, .undef, .undef, .undef, .undef, .undef, .undef, .undef, .undef, .undef, .undef, .undef, .undef, .undef, .undef, .undef, .undef, .undef, .undef, .undef, .undef, .undef, .undef, .undef, .undef, .undef, .undef], [.cells [.int .i64 q0, .int .i64 q1, .int .i64 q2, .str q3, .cG, .cG], .cells [.int .i64 q4, .int .i64 q5, .int .i64 q6, .str q7, .sl .str q8 (.own 2), .sl .json q9 (.own 3)], .tok, .tok]⟩
noncomputable def yZ {R:Type} (ca:ja R) (aJ:dk R) (bC:jS R) (K:Ex→St→Option R) (rc:kO→Option R) (d:kO):Option R:=mq ca aJ bC (fun z0 z1 z2 z3 z4 z5 z6 z7 z8 z9 Qo vU z12 RS=>rc (z0,z1,z2,z3,z4,z5,z6,z7,z8,z9,Qo,vU,z12,RS)) d.1 d.2.1 d.2.2.1 d.2.2.2.1 d.2.2.2.2.1 d.2.2.2.2.2.1 d.2.2.2.2.2.2.1 d.2.2.2.2.2.2.2.1 d.2.2.2.2.2.2.2.2.1 d.2.2.2.2.2.2.2.2.2.1 d.2.2.2.2.2.2.2.2.2.2.1 d.2.2.2.2.2.2.2.2.2.2.2.1 d.2.2.2.2.2.2.2.2.2.2.2.2.1 d.2.2.2.2.2.2.2.2.2.2.2.2.2 (xR K)
noncomputable def og {R:Type} (aJ:dk R) (K:Ex→St→Option R) (n:Nat) (d:kO):Option R:=bp aJ n d.1 d.2.1 d.2.2.1 d.2.2.2.1 d.2.2.2.2.1 d.2.2.2.2.2.1 d.2.2.2.2.2.2.1 d.2.2.2.2.2.2.2.1 d.2.2.2.2.2.2.2.2.1 d.2.2.2.2.2.2.2.2.2.1 d.2.2.2.2.2.2.2.2.2.2.1 d.2.2.2.2.2.2.2.2.2.2.2.1 d.2.2.2.2.2.2.2.2.2.2.2.2.1 d.2.2.2.2.2.2.2.2.2.2.2.2.2 (xR K)
abbrev kP:List bO := [.leaf (.undef), .leaf (.int .i64), .leaf (.ptr 0 0), .leaf (.undef), .leaf (.ptr 1 0), .leaf (.int .i64), .leaf (.ptr 2 0), .leaf (.int .i64), .leaf (.undef), .leaf (.undef), .leaf (.undef), .leaf (.undef), .leaf (.undef), .leaf (.undef), .leaf (.undef), .leaf (.undef), .leaf (.undef), .leaf (.undef), .leaf (.undef), .leaf (.undef), .leaf (.undef), .leaf (.undef), .leaf (.undef), .leaf (.undef), .leaf (.undef), .leaf (.undef), .leaf (.undef), .leaf (.undef), .leaf (.undef), .leaf (.undef), .leaf (.undef), .leaf (.undef), .leaf (.undef), .leaf (.undef), .leaf (.undef), .leaf (.undef), .leaf (.undef), .leaf (.undef), .leaf (.undef), .leaf (.undef), .leaf (.undef), .leaf (.undef), .leaf (.undef), .leaf (.undef), .leaf (.undef), .leaf (.undef), .leaf (.undef), .leaf (.undef), .leaf (.undef), .leaf (.undef), .leaf (.undef), .leaf (.undef), .leaf (.undef), .leaf (.undef), .leaf (.undef), .leaf (.undef), .leaf (.undef), .leaf (.undef), .leaf (.undef), .leaf (.undef), .leaf (.undef), .leaf (.undef), .leaf (.undef), .leaf (.undef), .leaf (.undef), .leaf (.undef), .leaf (.undef), .leaf (.undef), .leaf (.undef), .leaf (.undef), .leaf (.undef), .leaf (.undef), .leaf (.undef), .leaf (.undef), .leaf (.undef), .leaf (.undef), .leaf (.undef), .leaf (.undef), .leaf (.undef), .leaf (.undef), .leaf (.undef), .leaf (.undef), .leaf (.undef), .leaf (.undef), .leaf (.undef), .leaf (.undef), .leaf (.undef), .leaf (.undef), .leaf (.undef), .leaf (.undef), .leaf (.undef), .leaf (.undef), .leaf (.undef), .leaf (.undef), .leaf (.undef), .leaf (.undef), .leaf (.undef), .leaf (.undef), .leaf (.undef), .leaf (.undef), .leaf (.undef), .leaf (.undef), .leaf (.undef), .leaf (.undef), .leaf (.undef)]
abbrev kQ:List aH := [.cells [.int .i64, .int .i64, .int .i64, .sl (.int .i64), .sl .raw], .cells [.int .i64, .int .i64, .int .i64, .str, .cG, .cG], .cells [.int .i64, .int .i64, .int .i64, .str, .NQ .str 3, .NQ .json 4], .tok, .tok]
noncomputable def za (x:bO.av kP) (y:aH.av kQ):Nat:=(Int.natAbs x.2.1+Int.natAbs x.2.2.2.2.2.1+Int.natAbs x.2.2.2.2.2.2.2.1+Raw.fu (⟨y.1.1,y.1.2.1,y.1.2.2.1,y.1.2.2.2.1,y.1.2.2.2.2.1⟩:Raw)+Int.natAbs y.2.1.1+Int.natAbs y.2.1.2.1+Int.natAbs y.2.1.2.2.1+List.length y.2.1.2.2.2.1+Int.natAbs y.2.2.1.1+Int.natAbs y.2.2.1.2.1+Int.natAbs y.2.2.1.2.2.1+List.length y.2.2.1.2.2.2.1+List.length y.2.2.1.2.2.2.2.1+List.length y.2.2.1.2.2.2.2.2.1+64)
noncomputable def zc (x:bO.av kP) (y:aH.av kQ):kO:=(x.2.1,x.2.2.2.2.2.1,x.2.2.2.2.2.2.2.1,(⟨y.1.1,y.1.2.1,y.1.2.2.1,y.1.2.2.2.1,y.1.2.2.2.2.1⟩:Raw),y.2.1.1,y.2.1.2.1,y.2.1.2.2.1,y.2.1.2.2.2.1,y.2.2.1.1,y.2.2.1.2.1,y.2.2.1.2.2.1,y.2.2.1.2.2.2.1,y.2.2.1.2.2.2.2.1,y.2.2.1.2.2.2.2.2.1)
noncomputable def xS {R:Type} (L:lK R):bO.av kP→aH.av kQ→(Ex→St→Option R)→Option R:=fun x y K=>L (za x y) x.2.1 x.2.2.2.2.2.1 x.2.2.2.2.2.2.2.1 (⟨y.1.1,y.1.2.1,y.1.2.2.1,y.1.2.2.2.1,y.1.2.2.2.2.1⟩:Raw) y.2.1.1 y.2.1.2.1 y.2.1.2.2.1 y.2.1.2.2.2.1 y.2.2.1.1 y.2.2.1.2.1 y.2.2.1.2.2.1 y.2.2.1.2.2.2.1 y.2.2.1.2.2.2.2.1 y.2.2.1.2.2.2.2.2.1 (xR K)
noncomputable def qY (R:Type) (bC:jS R) (bp:lK R):Nat→Option (Hint × cq R):=fun i=>match i with
  | 11=>some (tY,(gq kP kQ (xS bp) qx))
  | 18=>some (tX,(gq kM kN (xQ bC) qx))
  | _=>none

theorem GP {R:Type} (ca:ja R) (di:mw R) (aJ:dk R) (eW:pC R) (bC:jS R) (bp:lK R) (K:Ex→St→Option R) (rc:St→Option R) (d:kL):roundOf tt (n7 R ca di aJ eW) (qY R bC bp) 0 ((aP (aK Tryz.f16)).getD 1 .skip) tX (rM d) rc K=yW K (fun d=>rc (rM d)) d:=by kernel_rfl
theorem Fj {R:Type} (K:Ex→St→Option R) (n:Nat) (d:kL):oe K (n+1) d=yW K (oe K n) d:=by kernel_rfl
theorem Fk {R:Type} (K:Ex→St→Option R) (d:kL):oe K 0 d=none:=by kernel_rfl
theorem GQ (x:bO.av kM) (y:aH.av kN):(⟨bO.cQ kM x,aH.cQ kN y⟩:St)=rM (yY x y):=by kernel_rfl
theorem GR {R:Type} (x:bO.av kM) (y:aH.av kN) (K:Ex→St→Option R):xQ (bC) x y K=oe K (yX x y) (yY x y):=by kernel_rfl
theorem Jk {R:Type} (aJ:dk R) (other:cq R) (ho:o0 tt (n7 R ca di aJ eW) (qY R bC (bp aJ)) 0 ((aP (aK Tryz.f16)).getD 1 .skip) tX other):o0 tt (n7 R ca di aJ eW) (qY R bC (bp aJ)) 0 ((aP (aK Tryz.f16)).getD 1 .skip) tX (gq kM kN (xQ (bC)) other) :=
  gL (A:=oe) ho (kr rM (yW) (oe) (Fk) (GP ca di aJ eW bC (bp aJ)) (Fj)) yX yY GQ (GR)

theorem GS {R:Type} (ca:ja R) (di:mw R) (aJ:dk R) (eW:pC R) (bC:jS R) (bp:lK R) (K:Ex→St→Option R) (rc:St→Option R) (d:kO):roundOf tt (n7 R ca di aJ eW) (qY R bC bp) 0 ((aP (aK Tryz.f16)).getD 0 .skip) tY (rN d) rc K=yZ ca aJ bC K (fun d=>rc (rN d)) d:=by kernel_rfl
theorem Fl {R:Type} (aJ:dk R) (K:Ex→St→Option R) (n:Nat) (d:kO):og aJ K (n+1) d=yZ ca aJ bC K (og aJ K n) d:=by kernel_rfl
theorem Fo {R:Type} (aJ:dk R) (K:Ex→St→Option R) (d:kO):og aJ K 0 d=none:=by kernel_rfl
theorem GU (x:bO.av kP) (y:aH.av kQ):(⟨bO.cQ kP x,aH.cQ kQ y⟩:St)=rN (zc x y):=by kernel_rfl
theorem GV {R:Type} (aJ:dk R) (x:bO.av kP) (y:aH.av kQ) (K:Ex→St→Option R):xS (bp aJ) x y K=og aJ K (za x y) (zc x y):=by kernel_rfl
theorem Jl {R:Type} (aJ:dk R) (other:cq R) (ho:o0 tt (n7 R ca di aJ eW) (qY R bC (bp aJ)) 0 ((aP (aK Tryz.f16)).getD 0 .skip) tY other):o0 tt (n7 R ca di aJ eW) (qY R bC (bp aJ)) 0 ((aP (aK Tryz.f16)).getD 0 .skip) tY (gq kP kQ (xS (bp aJ)) other) :=
  gL (A:=og aJ) ho (kr rN (yZ ca aJ bC) (og aJ) (Fo aJ) (GS ca di aJ eW bC (bp aJ)) (Fl aJ)) za zc GU (GV aJ)

noncomputable def n8 {R:Type} (ca:ja R) (di:mw R) (eW:pC R) (bp:lK R) (x1:Raw) (x2:Int) (k0:Json→Option R):Option R :=
  eW x1.kind 7 (fun y3=>bif ((IntKind.i64.wrap (1+y3))==4)then (di x1.aB x1.exp (fun y4=>k0 (⟨(IntKind.i64.wrap (1+y3)),⟨y4.aB,y4.exp⟩,([]:aj),([]:List aj),([]:List Json)⟩:Json)))else (bif ((IntKind.i64.wrap (1+y3))==5)then (cU (decide ((0:Int)≤(min (x1.text.length:Int) 20))&&decide ((min (x1.text.length:Int) 20)≤x1.text.length)) (cU (decide ((0:Int)≤(min (x1.text.length:Int) 20))) (ca ((x1.text.drop 0).take ((min (x1.text.length:Int) 20).toNat - 0)) (fun y5=>k0 (⟨(IntKind.i64.wrap (1+y3)),⟨0,0⟩,y5,([]:List aj),([]:List Json)⟩:Json)))))else (let j71:=fun (z6:Bool)=>bif z6 then (bp (Int.natAbs x2+Int.natAbs (IntKind.i64.wrap (1+y3))+Int.natAbs 0+Raw.fu (⟨x1.kind,x1.aB,x1.exp,x1.text,x1.items⟩:Raw)+Int.natAbs 0+Int.natAbs 0+Int.natAbs 0+List.length ([]:aj)+Int.natAbs (IntKind.i64.wrap (1+y3))+Int.natAbs 0+Int.natAbs 0+List.length ([]:aj)+List.length ([]:List aj)+List.length ([]:List Json)+64) x2 (IntKind.i64.wrap (1+y3)) 0 (⟨x1.kind,x1.aB,x1.exp,x1.text,x1.items⟩:Raw) 0 0 0 ([]:aj) (IntKind.i64.wrap (1+y3)) 0 0 ([]:aj) ([]:List aj) ([]:List Json) (fun y61 y62 y63 y64 y65 y66 y67 y68 y69 y70=>k0 (⟨y65,⟨y66,y67⟩,y68,y69,y70⟩:Json)))else (k0 (⟨(IntKind.i64.wrap (1+y3)),⟨0,0⟩,([]:aj),([]:List aj),([]:List Json)⟩:Json)); bif ((IntKind.i64.wrap (1+y3))==6)then (j71 ((IntKind.i64.wrap (1+y3))==6))else (j71 ((IntKind.i64.wrap (1+y3))==7)))))
noncomputable def Ge {R:Type} (aJ:dk R):dk R:=fun x1 x2 k0=>n8 ca di eW (bp aJ) x1 x2 k0
theorem QC {R:Type} (ca:ja R) (di:mw R) (aJ:dk R) (eW:pC R) (bC:jS R) (bp:lK R) (x1:Raw) (x2:Int) (k:V→az→Option R):iQ tt (n7 R ca di aJ eW) (qY R bC bp) false Tryz.f16 (aK Tryz.f16) [.agg [.int .i64 x1.kind, .int .i64 x1.aB, .int .i64 x1.exp, .sl (.int .i64) x1.text .no, .sl .raw x1.items .no], .int .i64 x2] [] k =
    n8 ca di eW bp x1 x2 (fun q0=>k (.agg [.int .i64 q0.kind, .int .i64 q0.num.aB, .int .i64 q0.num.exp, .str q0.text, .sl .str q0.names .no, .sl .json q0.items .no]) []):=by kernel_rfl
theorem Lk (R:Type) (aJ:dk R):∀a∈aP (aK Tryz.f16),cO tt (n7 R ca di aJ eW) (qY R bC (bp aJ)) 0 a:=by
  refine bH 2 (by kernel_rfl) fun i hi => ?_
  match i,hi with
  | 0,_=>exact fG (by kernel_rfl) (Jl aJ _ jc)
  | 1,_=>exact fG (by kernel_rfl) (Jk aJ _ jc)
  | n+2,hi=>omega
theorem Ll (R:Type) (aJ:dk R) (De:ay.Spec.Ok Tryz.prog 16 (aA px pz (lJ aJ) bg)) (other:ay.Spec R) (ho:ay.Spec.Ok Tryz.prog 16 other):ay.Spec.Ok Tryz.prog 16 (aA px pz (lJ (Ge aJ)) other) :=
  bw ho (bk TT mixed (Ox R aJ De) (keep:=false) rfl rfl rfl rfl 0 (Lk R aJ)) fun (x:bO.av px) (y:aH.av pz) k=>QC ca di aJ eW bC (bp aJ) (⟨x.1.1,x.1.2.1,x.1.2.2.1,x.1.2.2.2.1,x.1.2.2.2.2.1⟩:Raw) x.2.1 k
noncomputable def jT {R:Type}:Nat→dk R
  | 0,_,_,_=>none
  | n+1,lP,lQ,k0'=>Ge (jT n) lP lQ k0'
theorem Xg {R:Type} (n:Nat):jT (R:=R) (n+1)=Ge (jT n):=by kernel_rfl
theorem ND (R:Type):∀n,ay.Spec.Ok Tryz.prog 16 (aA px pz (lJ (jT (R:=R) n)) bg) :=
  wk (run:=fun n=>lJ (jT (R:=R) n)) (fun x y k=>by kernel_rfl) fun n hyp=>Ll R (jT n) hyp bg (aO _)
noncomputable def iI {R:Type}:dk R:=fun x1 x2 k0=>jT (Raw.depth x1+2) x1 x2 k0
theorem NF (R:Type):lJ (R:=R) iI=fun x y k=>lJ (jT (Raw.depth (⟨x.1.1,x.1.2.1,x.1.2.2.1,x.1.2.2.2.1,x.1.2.2.2.2.1⟩:Raw)+2)) x y k:=by kernel_rfl
theorem NG (R:Type) (other:ay.Spec R) (ho:ay.Spec.Ok Tryz.prog 16 other):ay.Spec.Ok Tryz.prog 16 (aA px pz (lJ iI) other) :=
  BX (Dx (run:=fun n=>lJ (jT (R:=R) n)) (fun x y=>(Raw.depth (⟨x.1.1,x.1.2.1,x.1.2.2.1,x.1.2.2.2.1,x.1.2.2.2.2.1⟩:Raw)+2)) ho (ND R)) (NF R)

end Go.Proofs.YtmlkkgfenfdndaaGreatDoor

set_option maxRecDepth 100000
namespace Go.Proofs.YtmlkkgfenfdndaaGreatDoor
open Go Go.ay Go.Lib

mutual
def Raw.tot:Raw→Nat
  | ⟨_,_,_,_,is⟩=>Raw.totL is+1
def Raw.totL:List Raw→Nat
  | []=>0
  | x::l=>Raw.tot x+Raw.totL l
end
mutual
def Raw.ok:Raw→Prop
  | ⟨k,m,e,t,is⟩=>(Eg k∧Eg m∧Eg e∧∀c∈t,Eg c)∧(t.length≤1048576∧is.length≤1048576)∧Raw.okL is
def Raw.okL:List Raw→Prop
  | []=>True
  | x::l=>Raw.ok x∧Raw.okL l
end
theorem NH {T:Ty}:∀(l:List T.den) (m:Nat),Sq m (l.map T.cells)→(∀(x:T.den) n,NU n (T.cells x)→1≤n)→l.length≤m
  | [],_,_,_=>Nat.zero_le _
  | x::l,_, .cons h t,hh=>by
    have h1:=hh x _ h
    have h2:=NH l _ t hh
    simp only[List.length_cons]
    omega
theorem aav {n:Nat} {v:V} (h:Wt n v):1≤n:=by
  cases h <;> omega
theorem Vh:∀(l:List (Ty.den (.int .i64))) (m:Nat),Sq m (l.map (Ty.cells (.int .i64)))→∀c∈(l:List Int),Eg c
  | [],_,_,c,hc=>by cases hc
  | x::l,_, .cons h t,c,hc=>by
    rcases List.mem_cons.1 hc with rfl|hc
    · have h':NU _ [V.int .i64 c]:=h
      cases h' with
      | cons a b=>cases a with|int _ hk=>exact Lz.1 hk
    · exact Vh l _ t c hc
mutual
theorem aaw:∀(x:Raw) (n:Nat),n≤1048576→NU n (Ty.cells .raw x)→Raw.tot x≤n∧Raw.ok x
  | ⟨k,m,e,t,is⟩,n,hn,h=>by
    have hL:=Vi is
    have h':NU n [.int .i64 k, .int .i64 m, .int .i64 e, .sl (.int .i64) t .no, .sl .raw is .no]:=h
    cases h' with
    | cons a1 h'=>cases h' with
      | cons a2 h'=>cases h' with
        | cons a3 h'=>cases h' with
          | cons a4 h'=>cases h' with
            | cons a5 h' =>
              cases h'
              cases a1 with|int p1 k1 =>
              cases a2 with|int p2 k2 =>
              cases a3 with|int p3 k3 =>
              cases a4 with|sl p4 w4 =>
              cases a5 with|sl p5 w5 =>
              have hl4:=NH (T := .int .i64) t _ w4 (fun x n h=>by
                have h':NU n [V.int .i64 x]:=h
                cases h' with|cons a b=>have:=aav a; omega)
              have hl5:=NH (T := .raw) is _ w5 (fun x n h=>by
                have h':NU n (.int .i64 x.kind::_):=h
                cases h' with|cons a b=>have:=aav a; omega)
              obtain ⟨g1,g2⟩:=hL _ (by omega) w5
              refine ⟨by simp only[Raw.tot]; omega,⟨Lz.1 k1,Lz.1 k2,Lz.1 k3,Vh t _ w4⟩,⟨Nat.le_trans hl4 (by omega),Nat.le_trans hl5 (by omega)⟩,g2⟩
theorem Vi:∀(l:List Raw) (n:Nat),n≤1048576→Sq n (l.map (Ty.cells .raw))→Raw.totL l≤n∧Raw.okL l
  | [],_,_,_=>⟨Nat.zero_le _,trivial⟩
  | x::l,_,hn, .cons h t=>by
    obtain ⟨a1,a2⟩:=aaw x _ (by omega) h
    obtain ⟨b1,b2⟩:=Vi l _ (by omega) t
    exact ⟨by simp only[Raw.totL]; omega,a2,b2⟩
end
theorem QD:∀ {l:List Raw} {x:Raw},Raw.okL l→x∈l→Raw.ok x
  | y::l,x,h,hx=>by
    rcases List.mem_cons.1 hx with rfl|hx
    · exact h.1
    · exact QD h.2 hx
theorem Uj {l:List Raw} {y:Raw} (h:y∈l):y.depth≤Raw.BW l:=by
  induction l with
  | nil=>cases h
  | cons a l ih =>
    simp only[Raw.BW]
    rcases List.mem_cons.1 h with rfl|h
    · exact Nat.le_max_left _ _
    · exact Nat.le_trans (ih h) (Nat.le_max_right _ _)
theorem Sr {x y:Raw} (h:y∈x.items):y.depth<x.depth:=by
  have:x.depth=Raw.BW x.items+1:=by cases x; simp[Raw.depth]
  rw[this]
  exact Nat.lt_succ_of_le (Uj h)

theorem Ss:∀(ns seen:List aj) (n:aj),wu seen (ns ++ [n])=(wu seen ns&&((!(seen.contains n||ns.contains n))&&gM n))
  | [],seen,n=>by simp[wu]
  | m::ns,seen,n=>by
    simp only[List.cons_append,wu,Ss ns (m::seen) n,List.contains_cons]
    cases seen.contains m <;> cases gM m <;> cases wu (m::seen) ns <;> cases n==m <;> cases seen.contains n <;> rfl

theorem QE (t:aj):(Ld t).length≤6*t.length+2:=by
  unfold Ld
  have:∀l:aj,(l.flatMap qb).length≤6*l.length:=by
    intro l
    induction l with
    | nil=>simp
    | cons b l ih =>
      have:=qb_len b
      simp only[List.flatMap_cons,List.length_append,List.length_cons]
      omega
  have:=this t
  simp only[List.length_cons,List.length_append,List.length_nil]
  omega

theorem aax {R:Type} (d q i:Int) (y:aj) (raw:Raw) (a1 a2 a3:Int) (a4:aj) (b1 b2 b3:Int) (b4:aj) (ns:List aj) (hl:ns.length≤1000000) (is:List Json) (ri:Raw) (e0):∀(F j:Nat) (b:Bool),j≤ns.length→ns.length - j<F →
    bC (R:=R) F d q i y b (j:Int) raw a1 a2 a3 a4 b1 b2 b3 b4 ns is ri e0=e0 d q i y (b||(ns.drop j).contains y) raw a1 a2 a3 a4 b1 b2 b3 b4 ns is ri:=by
  intro F
  induction F with
  | zero=>intro j b _ h; omega
  | succ F ih =>
    intro j b hj hF
    show tW (fun lP lQ my tO Er Es K6 K7 K8 K9 Ao F9 NB NC aar aas aat aau=>bC F lP lQ my tO Er Es K6 K7 K8 K9 Ao F9 NB NC aar aas aat aau e0) d q i y b (j:Int) raw a1 a2 a3 a4 b1 b2 b3 b4 ns is ri e0=_
    unfold tW
    simp only[Raw.eta]
    by_cases h:j<ns.length
    · have h1:decide ((j:Int)<(ns.length:Int))=true:=by simp; omega
      have h2:(decide ((0:Int)≤(j:Int))&&true)=true:=by simp
      have hw:IntKind.i64.wrap ((j:Int)+1)=((j+1:Nat):Int):=by rw[dE (by omega) (by omega)]; omega
      have hg:ns.getD (j:Int).toNat (Ty.ck .str)=ns[j]:=getD_at h _
      rw[h1,cond_true,aS h2,hg,hw,List.drop_eq_getElem_cons h,List.contains_cons]
      cases b with
      | true =>
        rw[cond_true,ih (j+1) true (by omega) (by omega)]
        rfl
      | false =>
        rw[cond_false,ih (j+1) _ (by omega) (by omega),Bool.false_or]
        have:(ns[j]==y)=(y==ns[j]):=by rw[Bool.eq_iff_iff,beq_iff_eq,beq_iff_eq]; exact eq_comm
        rw[this]
    · have h1:decide ((j:Int)<(ns.length:Int))=false:=by simp; omega
      rw[h1,cond_false,List.drop_eq_nil_of_le (by omega),List.contains_nil,Bool.or_false]

structure aay (R:Type) (v:Json) (d:Int) (n:Nat):Prop where
  right:gR v d=true
  len:Le v=true
  size:(rK v).length+5000≤10000*n

theorem NI:∀(l:List Json) (x:Json) (b:Bool),(pK (l ++ [x]) b).length≤(pK l b).length+1+(rK x).length
  | [],x,b=>by cases b <;> simp[pK] <;> omega
  | y::l,x,b=>by
    have:=NI l x false
    simp only[List.cons_append,pK,List.length_append]
    omega
theorem NJ:∀(ns:List aj) (l:List Json) (n:aj) (x:Json) (b:Bool),ns.length=l.length→(oQ (ns ++ [n]) (l ++ [x]) b).length≤(oQ ns l b).length+2+(Ld n).length+(rK x).length
  | [], [],n,x,b,_=>by cases b <;> simp[oQ] <;> omega
  | m::ns,y::l,n,x,b,h=>by
    have:=NJ ns l n x false (by simpa using h)
    simp only[List.cons_append,oQ,List.headD_cons,List.tail_cons,List.length_append,List.length_cons]
    omega
  | [],_::_,_,_,_,h=>by cases h
  | _::_, [],_,_,_,h=>by cases h
theorem HY:∀(l:List Json) (x:Json) (d:Int),gV (l ++ [x]) d=(gV l d&&gR x d)
  | [],x,d=>by simp[gV]
  | y::l,x,d=>by simp only[List.cons_append,gV,HY l x d,Bool.and_assoc]
theorem NK:∀(l:List Json) (x:Json),Ou (l ++ [x])=(Ou l&&Le x)
  | [],x=>by simp[Ou]
  | y::l,x=>by simp only[List.cons_append,Ou,NK l x,Bool.and_assoc]
theorem totL_take (l:List Raw) (i:Nat) (h:i<l.length):Raw.totL (l.take (i+1))=Raw.totL (l.take i)+Raw.tot l[i]:=by
  induction l generalizing i with
  | nil=>cases h
  | cons y l ih =>
    cases i with
    | zero=>simp[Raw.totL]
    | succ i =>
      have:=ih i (by simpa using h)
      simp only[List.take_succ_cons,Raw.totL,List.getElem_cons_succ]
      omega
theorem totL_take_le (l:List Raw) (i:Nat):Raw.totL (l.take i)≤Raw.totL l:=by
  induction l generalizing i with
  | nil=>simp
  | cons y l ih =>
    cases i with
    | zero=>simp[Raw.totL]
    | succ i =>
      have:=ih i
      simp only[List.take_succ_cons,Raw.totL]
      omega

structure Xh (q:Int) (d:Int) (ns:List aj) (is:List Json) (n:Nat):Prop where
  right:gV is (d+1)=true
  len:Ou is=true
  count:is.length≤12
  names:(q=7∧ns.length=is.length∧wu [] ns=true∧(∀t∈ns,t.length≤1000)∧(oQ ns is true).length≤10000*n)∨(q=6∧ns = []∧(pK is true).length≤10000*n)

theorem Xh.fit {R:Type} {q d:Int} (hd:d≤16) {ns:List aj} {is:List Json} {n m:Nat} (h:Xh q d ns is n) (hn:n≤m):aay R ⟨q,⟨0,0⟩, [],ns,is⟩ d (m+1):=by
  obtain ⟨h1,h2,h3,h4⟩:=h
  rcases h4 with ⟨rfl,g1,g2,g3,g4⟩|⟨rfl,rfl,g4⟩
  · refine ⟨oz.2 (.obj ns is d hd g1 g2 h1),B9.2 ⟨by simp only; omega,by simp only; omega,h2,by simp,fun t ht=>by have:=g3 t ht; omega⟩,?_⟩
    show (123::(oQ ns is true ++ [125]):aj).length+5000≤_
    simp only[List.length_cons,List.length_append,List.length_nil]
    omega
  · refine ⟨oz.2 (.arr is d hd h1),B9.2 ⟨by simp,by simp only; omega,h2,by simp,by simp⟩,?_⟩
    show (91::(pK is true ++ [93]):aj).length+5000≤_
    simp only[List.length_cons,List.length_append,List.length_nil]
    omega
end Go.Proofs.YtmlkkgfenfdndaaGreatDoor

/-
  Functions of the program as pure Lean functions, and the ties; printed by wip/tools/emit.py.
-/
set_option maxRecDepth 100000
namespace Go.Proofs.YtmlkkgfenfdndaaGreatDoor
open Go Go.ay

/-! ### humpyard/humpyardlaw04.JsonSpread -/
abbrev AR (R:Type):Type:=Raw→(Bool→Option R)→Option R
abbrev rO:List bO := [.agg [.int .i64, .int .i64, .int .i64, .sl (.int .i64), .sl .raw]]
abbrev rP:List aH := []
noncomputable def AS {R:Type} (fn:AR R):bO.av rO→aH.av rP→(V→az→Option R)→Option R:=fun x y k=>fn (⟨x.1.1,x.1.2.1,x.1.2.2.1,x.1.2.2.2.1,x.1.2.2.2.2.1⟩:Raw) (fun q0=>k (.bool q0) [])
abbrev hM (R:Type):Type:=Nat→(List Token)→aj→Int→Json→(aj→Json→Option R)→Option R
noncomputable def kn (R:Type) (bj:eT R) (iI:dk R) (fY:qM R) (dp:mR R) (dA:mB R) (dR:cA R) (dm:mM R):Env R:=fun i=>match i with
  | 26=>some (true,(aA pF pG (th bj) bg))
  | 16=>some (true,(aA px pz (lJ iI) bg))
  | 30=>some (true,(aA zu zw (Gc fY) bg))
  | 20=>some (true,(aA xL xM (Dc dp) bg))
  | 17=>some (true,(aA xo xp (C4 dA) bg))
  | 21=>some (true,(aA lV lW (iF dR) bg))
  | 25=>some (true,(aA xA xB (C7 dm) bg))
  | _=>none
theorem Gf (R:Type):p8 Tryz.prog (kn R bj iI fY dp dA dR dm):=by
  intro i b sp h
  unfold kn at h
  split at h
  · cases h; exact ⟨(tS R _ (aO _)),fun h=>nomatch h⟩
  · cases h; exact ⟨(NG R _ (aO _)),fun h=>nomatch h⟩
  · cases h; exact ⟨(Ki R _ (aO _)),fun h=>nomatch h⟩
  · cases h; exact ⟨(EW R _ (aO _)),fun h=>nomatch h⟩
  · cases h; exact ⟨(ER R _ (aO _)),fun h=>nomatch h⟩
  · cases h; exact ⟨(Gb R _ (aO _)),fun h=>nomatch h⟩
  · cases h; exact ⟨(EU R _ (aO _)),fun h=>nomatch h⟩
  · cases h

noncomputable def nE {R:Type} (bj:eT R) (fH:(List Token)→aj→Int→Json→Option R) (x9:List Token) (yQ:aj) (Jr:Int) (Lj:Json) (e0:aj→Json→Option R):Option R :=
  bif (decide (Jr<(x9.length:Int)))then (cU (decide ((0:Int)≤Jr)&&decide (Jr<x9.length)) (cU (decide ((0:Int)≤Jr)&&decide (Jr<x9.length)) (bif ((x9.getD Jr.toNat (Ty.ck .token)).kind==2)then (bj ((x9.getD Jr.toNat (Ty.ck .token)).text) (fun DB Dg=>cU (decide (yQ.length+3≤9223372036854775807)) (cU (decide ((yQ++([13,10,32]:aj)).length+DB.length≤9223372036854775807)) (fH x9 ((yQ++([13,10,32]:aj))++DB) (IntKind.i64.wrap (Jr+1)) (⟨Lj.kind,⟨Lj.num.aB,Lj.num.exp⟩,Lj.text,Lj.names,Lj.items⟩:Json)))))else (cU (decide (yQ.length+3≤9223372036854775807)) (cU (decide ((yQ++([13,10,32]:aj)).length+((x9.getD Jr.toNat (Ty.ck .token)).text).length≤9223372036854775807)) (fH x9 ((yQ++([13,10,32]:aj))++(x9.getD Jr.toNat (Ty.ck .token)).text) (IntKind.i64.wrap (Jr+1)) (⟨Lj.kind,⟨Lj.num.aB,Lj.num.exp⟩,Lj.text,Lj.names,Lj.items⟩:Json)))))))else (e0 yQ (⟨Lj.kind,⟨Lj.num.aB,Lj.num.exp⟩,Lj.text,Lj.names,Lj.items⟩:Json))
noncomputable def bx {R:Type}:hM R
  | 0,_,_,_,_,_=>none
  | n+1,lP,lQ,my,tO,e0=>nE bj (fun lP lQ my tO=>bx n lP lQ my tO e0) lP lQ my tO e0
noncomputable def nF:Hint := { live := [4,6,9,10],own := [],rows := [],cells := [],drop := [],out := [2,4,9] }
abbrev ft:Type:=(List Token) × aj × Int × Json
noncomputable def mg:ft→St:=fun d=>⟨[.undef, .undef, .undef, .undef, .ptr 0 0, .undef, .sl .token d.1 .no, .undef, .undef, .str d.2.1, .int .i64 d.2.2.1, .undef, .undef, .undef, .undef, .undef, .undef, .undef, .undef, .undef, .undef, .undef, .undef, .undef, .undef, .undef, .undef, .undef, .undef, .undef, .undef, .undef, .undef, .undef, .undef, .undef, .undef, .undef, .undef, .undef, .undef, .undef, .undef, .undef, .undef, .undef, .undef, .undef, .undef, .undef, .undef, .undef, .undef, .undef, .undef, .undef, .undef, .undef, .undef, .undef, .undef, .undef, .undef, .undef, .undef, .undef, .undef, .undef, .undef, .undef, .undef, .undef, .undef, .undef, .undef, .undef, .undef, .undef, .undef], [.cells [.int .i64 d.2.2.2.kind, .int .i64 d.2.2.2.num.aB, .int .i64 d.2.2.2.num.exp, .str d.2.2.2.text, .sl .str d.2.2.2.names .no, .sl .json d.2.2.2.items .no]]⟩
noncomputable def pP {R:Type} (K:Ex→St→Option R) (q0:aj) (q1:Json):Option R:=K (.exit 0) ⟨[.undef, .undef, .undef, .undef, .ptr 0 0, .undef, .undef, .undef, .undef, .str q0, .undef, .undef, .undef, .undef, .undef, .undef, .undef, .undef, .undef, .undef, .undef, .undef, .undef, .undef, .undef, .undef, .undef, .undef, .undef, .undef, .undef, .undef, .undef, .undef, .undef, .undef, .undef, .undef, .undef, .undef, .undef, .undef, .undef, .undef, .undef, .undef, .undef, .undef, .undef, .undef, .undef, .undef, .undef, .undef, .undef, .undef, .undef, .undef, .undef, .undef, .undef, .undef, .undef, .undef, .undef, .undef, .undef, .undef, .undef, .undef, .undef, .undef, .undef, .undef, .undef, .undef, .undef, .undef, .undef], [.cells [.int .i64 q1.kind, .int .i64 q1.num.aB, .int .i64 q1.num.exp, .str q1.text, .sl .str q1.names .no, .sl .json q1.items .no]]⟩
noncomputable def qO {R:Type} (bj:eT R) (K:Ex→St→Option R) (rc:ft→Option R) (d:ft):Option R:=nE bj (fun z0 z1 z2 z3=>rc (z0,z1,z2,z3)) d.1 d.2.1 d.2.2.1 d.2.2.2 (pP K)
noncomputable def iJ {R:Type} (K:Ex→St→Option R) (n:Nat) (d:ft):Option R:=bx n d.1 d.2.1 d.2.2.1 d.2.2.2 (pP K)
abbrev fv:List bO := [.leaf (.undef), .leaf (.undef), .leaf (.undef), .leaf (.undef), .leaf (.ptr 0 0), .leaf (.undef), .leaf (.sl .token), .leaf (.undef), .leaf (.undef), .leaf (.str), .leaf (.int .i64), .leaf (.undef), .leaf (.undef), .leaf (.undef), .leaf (.undef), .leaf (.undef), .leaf (.undef), .leaf (.undef), .leaf (.undef), .leaf (.undef), .leaf (.undef), .leaf (.undef), .leaf (.undef), .leaf (.undef), .leaf (.undef), .leaf (.undef), .leaf (.undef), .leaf (.undef), .leaf (.undef), .leaf (.undef), .leaf (.undef), .leaf (.undef), .leaf (.undef), .leaf (.undef), .leaf (.undef), .leaf (.undef), .leaf (.undef), .leaf (.undef), .leaf (.undef), .leaf (.undef), .leaf (.undef), .leaf (.undef), .leaf (.undef), .leaf (.undef), .leaf (.undef), .leaf (.undef), .leaf (.undef), .leaf (.undef), .leaf (.undef), .leaf (.undef), .leaf (.undef), .leaf (.undef), .leaf (.undef), .leaf (.undef), .leaf (.undef), .leaf (.undef), .leaf (.undef), .leaf (.undef), .leaf (.undef), .leaf (.undef), .leaf (.undef), .leaf (.undef), .leaf (.undef), .leaf (.undef), .leaf (.undef), .leaf (.undef), .leaf (.undef), .leaf (.undef), .leaf (.undef), .leaf (.undef), .leaf (.undef), .leaf (.undef), .leaf (.undef), .leaf (.undef), .leaf (.undef), .leaf (.undef), .leaf (.undef), .leaf (.undef), .leaf (.undef)]
abbrev fw:List aH := [.cells [.int .i64, .int .i64, .int .i64, .str, .sl .str, .sl .json]]
noncomputable def qP (x:bO.av fv) (y:aH.av fw):Nat:=(List.length x.2.2.2.2.2.2.1+List.length x.2.2.2.2.2.2.2.2.2.1+Int.natAbs x.2.2.2.2.2.2.2.2.2.2.1+Json.fu (⟨y.1.1,⟨y.1.2.1,y.1.2.2.1⟩,y.1.2.2.2.1,y.1.2.2.2.2.1,y.1.2.2.2.2.2.1⟩:Json)+64)
noncomputable def qQ (x:bO.av fv) (y:aH.av fw):ft:=(x.2.2.2.2.2.2.1,x.2.2.2.2.2.2.2.2.2.1,x.2.2.2.2.2.2.2.2.2.2.1,(⟨y.1.1,⟨y.1.2.1,y.1.2.2.1⟩,y.1.2.2.2.1,y.1.2.2.2.2.1,y.1.2.2.2.2.2.1⟩:Json))
noncomputable def pQ {R:Type} (L:hM R):bO.av fv→aH.av fw→(Ex→St→Option R)→Option R:=fun x y K=>L (qP x y) x.2.2.2.2.2.2.1 x.2.2.2.2.2.2.2.2.2.1 x.2.2.2.2.2.2.2.2.2.2.1 (⟨y.1.1,⟨y.1.2.1,y.1.2.2.1⟩,y.1.2.2.2.1,y.1.2.2.2.2.1,y.1.2.2.2.2.2.1⟩:Json) (pP K)
noncomputable def oA (R:Type) (bx:hM R):Nat→Option (Hint × cq R):=fun i=>match i with
  | 11=>some (nF,(gq fv fw (pQ bx) qx))
  | _=>none

theorem Cf {R:Type} (bj:eT R) (iI:dk R) (fY:qM R) (dp:mR R) (dA:mB R) (dR:cA R) (dm:mM R) (bx:hM R) (K:Ex→St→Option R) (rc:St→Option R) (d:ft):roundOf tt (kn R bj iI fY dp dA dR dm) (oA R bx) 0 ((aP (aK Tryz.f13)).getD 0 .skip) nF (mg d) rc K=qO bj K (fun d=>rc (mg d)) d:=by kernel_rfl
theorem AE {R:Type} (K:Ex→St→Option R) (n:Nat) (d:ft):iJ K (n+1) d=qO bj K (iJ K n) d:=by kernel_rfl
theorem AF {R:Type} (K:Ex→St→Option R) (d:ft):iJ K 0 d=none:=by kernel_rfl
theorem Cg (x:bO.av fv) (y:aH.av fw):(⟨bO.cQ fv x,aH.cQ fw y⟩:St)=mg (qQ x y):=by kernel_rfl
theorem Ch {R:Type} (x:bO.av fv) (y:aH.av fw) (K:Ex→St→Option R):pQ (bx) x y K=iJ K (qP x y) (qQ x y):=by kernel_rfl
theorem Df {R:Type} (other:cq R) (ho:o0 tt (kn R bj iI fY dp dA dR dm) (oA R bx) 0 ((aP (aK Tryz.f13)).getD 0 .skip) nF other):o0 tt (kn R bj iI fY dp dA dR dm) (oA R bx) 0 ((aP (aK Tryz.f13)).getD 0 .skip) nF (gq fv fw (pQ (bx)) other) :=
  gL (A:=iJ) ho (kr mg (qO bj) (iJ) (AF) (Cf bj iI fY dp dA dR dm bx) (AE)) qP qQ Cg (Ch)

noncomputable def rQ {R:Type} (iI:dk R) (fY:qM R) (dp:mR R) (dA:mB R) (dR:cA R) (dm:mM R) (bx:hM R) (x1:Raw) (k0:Bool→Option R):Option R :=
  fY (fun y2=>iI (⟨x1.kind,x1.aB,x1.exp,x1.text,x1.items⟩:Raw) 1 (fun y3=>dA (⟨y3.kind,⟨y3.num.aB,y3.num.exp⟩,y3.text,y3.names,y3.items⟩:Json) (fun y4=>bif (decide ((y4.length:Int)>(3000:Int)))then (k0 y2)else (dm y4 (fun y5 y6 y7=>bif (!y2)then (k0 false)else (bif (y6 != 0)then (k0 false)else (bx (List.length y5+List.length ([]:aj)+Int.natAbs 0+Json.fu (⟨y3.kind,⟨y3.num.aB,y3.num.exp⟩,y3.text,y3.names,y3.items⟩:Json)+64) y5 ([]:aj) 0 (⟨y3.kind,⟨y3.num.aB,y3.num.exp⟩,y3.text,y3.names,y3.items⟩:Json) (fun Jn E2=>dp Jn (fun KF LA BZ=>bif (LA==0)then (bif (BZ==0)then (dR (⟨E2.kind,⟨E2.num.aB,E2.num.exp⟩,E2.text,E2.names,E2.items⟩:Json) (⟨KF.kind,⟨KF.num.aB,KF.num.exp⟩,KF.text,KF.names,KF.items⟩:Json) (fun Ql=>k0 Ql))else (k0 false))else (k0 false))))))))))
noncomputable def qR {R:Type}:AR R:=fun x1 k0=>rQ iI fY dp dA dR dm bx x1 k0
theorem GW {R:Type} (bj:eT R) (iI:dk R) (fY:qM R) (dp:mR R) (dA:mB R) (dR:cA R) (dm:mM R) (bx:hM R) (x1:Raw) (k:V→az→Option R):iQ tt (kn R bj iI fY dp dA dR dm) (oA R bx) false Tryz.f13 (aK Tryz.f13) [.agg [.int .i64 x1.kind, .int .i64 x1.aB, .int .i64 x1.exp, .sl (.int .i64) x1.text .no, .sl .raw x1.items .no]] [] k =
    rQ iI fY dp dA dR dm bx x1 (fun q0=>k (.bool q0) []):=by kernel_rfl
theorem EG (R:Type):∀a∈aP (aK Tryz.f13),cO tt (kn R bj iI fY dp dA dR dm) (oA R bx) 0 a:=by
  refine bH 1 (by kernel_rfl) fun i hi => ?_
  match i,hi with
  | 0,_=>exact fG (by kernel_rfl) (Df _ jc)
  | n+1,hi=>omega
theorem Fp (R:Type) (other:ay.Spec R) (ho:ay.Spec.Ok Tryz.prog 13 other):ay.Spec.Ok Tryz.prog 13 (aA rO rP (AS qR) other) :=
  bw ho (bk TT mixed (Gf R) (keep:=false) rfl rfl rfl rfl 0 (EG R)) fun (x:bO.av rO) (y:aH.av rP) k=>GW bj iI fY dp dA dR dm bx (⟨x.1.1,x.1.2.1,x.1.2.2.1,x.1.2.2.2.1,x.1.2.2.2.2.1⟩:Raw) k

end Go.Proofs.YtmlkkgfenfdndaaGreatDoor

set_option maxRecDepth 100000
namespace Go.Proofs.YtmlkkgfenfdndaaGreatDoor
open Go Go.ay Go.Lib

theorem awake04 {R:Type} (k:Bool→Option R):fY k=k true:=by kernel_rfl

theorem pick04 {R:Type} (c n:Int) (hc:Eg c) (h0:0<n) (hn:n≤9223372036854775807):∃r:Int,0≤r∧r<n∧∀k:Int→Option R,eW c n k=k r:=MR c n hc h0 hn


theorem Uk {R:Type} (jB:dk R) (d:Int) (hd:1≤d∧d≤16) (q:Int) (hq:q=6∨q=7) (raw:Raw) (hl:raw.items.length≤1048576) (sZ:Raw.okL raw.items) (hf:d<16→∀x∈raw.items,∃v,aay R v (d+1) (Raw.tot x)∧∀k:Json→Option R,jB x (d+1) k=k v) :
    ∀(F i:Nat) (ns:List aj) (is:List Json),i≤raw.items.length→raw.items.length - i<F→is.length≤i→Xh q d ns is (Raw.totL (raw.items.take i)) →
    ∃LG LH,Xh q d LG LH (Raw.totL raw.items)∧∀e0,bp jB F d q (i:Int) raw 0 0 0 [] q 0 0 [] ns is e0=e0 0 0 0 [] q 0 0 [] LG LH:=by
  intro F
  induction F with
  | zero=>intro i ns is _ h; omega
  | succ F ih =>
    intro i ns is hi hF hc hh
    have e1:∀e0,bp jB (F+1) d q (i:Int) raw 0 0 0 [] q 0 0 [] ns is e0=mq ca jB bC (fun lP lQ my tO Er Es K6 K7 K8 K9 Ao F9 NB NC=>bp jB F lP lQ my tO Er Es K6 K7 K8 K9 Ao F9 NB NC e0) d q (i:Int) raw 0 0 0 [] q 0 0 [] ns is e0:=fun e0=>rfl
    have stop:(∀e0,bp jB (F+1) d q (i:Int) raw 0 0 0 [] q 0 0 [] ns is e0=e0 0 0 0 [] q 0 0 [] ns is)→∃LG LH,Xh q d LG LH (Raw.totL raw.items)∧∀e0,bp jB (F+1) d q (i:Int) raw 0 0 0 [] q 0 0 [] ns is e0=e0 0 0 0 [] q 0 0 [] LG LH:=fun h=>by
      refine ⟨ns,is,⟨hh.right,hh.len,hh.count,?_⟩,h⟩
      have hle:=totL_take_le raw.items i
      rcases hh.names with ⟨g1,g2,g3,g4,g5⟩|⟨g1,g2,g3⟩
      · exact .inl ⟨g1,g2,g3,g4,by omega⟩
      · exact .inr ⟨g1,g2,by omega⟩
    by_cases h:i<raw.items.length
    rotate_left
    · refine stop fun e0 => ?_
      rw[e1]
      unfold mq
      have h1:decide ((i:Int)<(raw.items.length:Int))=false:=by simp; omega
      rw[h1]
      rfl
    have h1:decide ((i:Int)<(raw.items.length:Int))=true:=by simp; omega
    by_cases h12:i<12
    rotate_left
    · refine stop fun e0 => ?_
      rw[e1]
      unfold mq
      have h2:decide ((i:Int)<12)=false:=by simp; omega
      rw[h1,h2]
      rfl
    have h2:decide ((i:Int)<12)=true:=by simp; omega
    by_cases Sl:d<16
    rotate_left
    · refine stop fun e0 => ?_
      rw[e1]
      unfold mq
      have h3:decide (d<16)=false:=by simp; omega
      rw[h1,h2,h3]
      rfl
    have h3:decide (d<16)=true:=by simpa using Sl
    have hw:IntKind.i64.wrap ((i:Int)+1)=((i+1:Nat):Int):=by rw[dE (by omega) (by omega)]; omega
    have hwd:IntKind.i64.wrap (d+1)=d+1:=dE (by omega) (by omega)
    have hg:raw.items.getD (i:Int).toNat (Ty.ck .raw)=raw.items[i]:=getD_at h _
    have hxok:=QD sZ (List.getElem_mem h)
    obtain ⟨v,hv,mV⟩:=hf Sl raw.items[i] (List.getElem_mem h)
    generalize hx:raw.items[i]=x at *
    have PQ:∀c∈x.text,Eg c:=by
      obtain ⟨k1,m1,UE,t1,is1⟩:=x
      exact hxok.1.2.2.2
    have hxl:x.text.length≤1048576:=by
      obtain ⟨k1,m1,UE,t1,is1⟩:=x
      exact hxok.2.1.1
    have XI:min (x.text.length:Int) 8=((min x.text.length 8:Nat):Int):=by omega
    obtain ⟨rs,r1,r2,r3,r4⟩:=RT (R:=R) (x.text.take (min x.text.length 8)) (fun c hc=>PQ c (List.mem_of_mem_take hc))
    have HF:gM (cQ rs)=true:=Dz.2 ⟨rs,r1,rfl⟩
    have aaz:Raw.totL (raw.items.take (i+1))=Raw.totL (raw.items.take i)+Raw.tot x:=by rw[totL_take _ _ h,hx]
    have hqt:=QE (cQ rs)
    have e2:∀e0,bp jB (F+1) d q (i:Int) raw 0 0 0 [] q 0 0 [] ns is e0 =
        (bif (q==7)then (bC (Int.natAbs d+Int.natAbs q+Int.natAbs (i:Int)+List.length (cQ rs)+Int.natAbs 0+Raw.fu raw+Int.natAbs 0+Int.natAbs 0+Int.natAbs 0+List.length ([]:aj)+Int.natAbs q+Int.natAbs 0+Int.natAbs 0+List.length ([]:aj)+List.length ns+List.length is+Raw.fu x+64) d q (i:Int) (cQ rs) false 0 raw 0 0 0 [] q 0 0 [] ns is x (fun O7 RY RZ Xw WJ Ol Xz ZA ZB ZC XA ZD ZE y55 WK WL WM=>bif WJ then (bp jB F O7 RY (IntKind.i64.wrap (RZ+1)) Ol Xz ZA ZB ZC XA ZD ZE y55 WK WL e0)else (cU (decide ((WK.length+1)*16≤140737488355328)) (jB WM (IntKind.i64.wrap (O7+1)) (fun TW=>cU (decide ((WL.length+1)*88≤140737488355328)) (bp jB F O7 RY (IntKind.i64.wrap (RZ+1)) Ol Xz ZA ZB ZC XA ZD ZE y55 (WK++([Xw]:List aj)) (WL++([TW]:List Json)) e0))))))
        else (jB x (IntKind.i64.wrap (d+1)) (fun UW=>cU (decide ((is.length+1)*88≤140737488355328)) (bp jB F d q (IntKind.i64.wrap ((i:Int)+1)) raw 0 0 0 [] q 0 0 [] ns (is++([UW]:List Json)) e0)))):=fun e0=>by
      rw[e1]
      unfold mq
      simp only[Raw.eta,Json.eta]
      rw[h1,cond_true,h2,cond_true,h3,cond_true,aS (by simp),hg,XI,aS (by rw[br (by omega),br (by omega)]; rfl),aS (br (by omega)),Int.toNat_natCast,List.drop_zero,Nat.sub_zero,r4]
    have c1:decide ((ns.length+1)*16≤140737488355328)=true:=by
      rw[decide_eq_true_eq]
      have:=hh.count
      rcases hh.names with ⟨_,g2,_⟩|⟨_,g2,_⟩
      · omega
      · rw[g2]; simp
    have c2:decide ((is.length+1)*88≤140737488355328)=true:=by
      rw[decide_eq_true_eq]
      have:=hh.count
      omega
    have qS:=hv.size
    rcases hq with rfl|rfl
    · -- an array
      rcases hh.names with ⟨g1,_⟩|⟨_,g2,g3⟩
      · cases g1
      have hpe:=NI is v true
      obtain ⟨LG,LH,hh',Su⟩:=ih (i+1) ns (is ++ [v]) (by omega) (by omega) (by simp; omega) ⟨by rw[HY,hh.right,hv.right]; rfl,by rw[NK,hh.len,hv.len]; rfl,by simp; omega, .inr ⟨rfl,g2,by rw[aaz]; omega⟩⟩
      refine ⟨LG,LH,hh',fun e0 => ?_⟩
      rw[e2]
      show jB x (IntKind.i64.wrap (d+1)) _=_
      rw[hwd,mV,aS c2,hw,Su]
    · -- an object
      rcases hh.names with ⟨_,g2,g3,g4,g5⟩|⟨g1,_⟩
      rotate_left
      · cases g1
      have hsl:=fun e=>aax (R:=R) d 7 (i:Int) (cQ rs) raw 0 0 0 [] 7 0 0 [] ns (by have:=hh.count; omega) is x e (Int.natAbs d+Int.natAbs 7+Int.natAbs (i:Int)+List.length (cQ rs)+Int.natAbs 0+Raw.fu raw+Int.natAbs 0+Int.natAbs 0+Int.natAbs 0+List.length ([]:aj)+Int.natAbs 7+Int.natAbs 0+Int.natAbs 0+List.length ([]:aj)+List.length ns+List.length is+Raw.fu x+64) 0 false (by omega) (by omega)
      cases hcn:ns.contains (cQ rs)with
      | true =>
        obtain ⟨LG,LH,hh',Su⟩:=ih (i+1) ns is (by omega) (by omega) (by omega) ⟨hh.right,hh.len,hh.count, .inl ⟨rfl,g2,g3,g4,by rw[aaz]; omega⟩⟩
        refine ⟨LG,LH,hh',fun e0 => ?_⟩
        rw[e2]
        refine (hsl _).trans ?_
        rw[List.drop_zero,hcn]
        show bp jB F d 7 (IntKind.i64.wrap ((i:Int)+1)) raw 0 0 0 [] 7 0 0 [] ns is e0=_
        rw[hw,Su]
      | false =>
        have hpe:=NJ ns is (cQ rs) v true g2
        obtain ⟨LG,LH,hh',Su⟩:=ih (i+1) (ns ++ [cQ rs]) (is ++ [v]) (by omega) (by omega) (by simp; omega) ⟨by rw[HY,hh.right,hv.right]; rfl,by rw[NK,hh.len,hv.len]; rfl,by simp; omega,
          .inl ⟨rfl,by simp[g2],by rw[Ss,g3,hcn,HF]; rfl,fun t ht=>by
            rcases List.mem_append.1 ht with ht|ht
            · exact g4 t ht
            · simp only[List.mem_singleton]at ht
              rw[ht]; omega,by rw[aaz]; omega⟩⟩
        refine ⟨LG,LH,hh',fun e0 => ?_⟩
        rw[e2]
        refine (hsl _).trans ?_
        rw[List.drop_zero,hcn]
        show cU (decide ((ns.length+1)*16≤140737488355328)) (jB x (IntKind.i64.wrap (d+1)) _)=_
        rw[aS c1,hwd,mV,aS c2,hw,Su]

theorem aaA {d:iZ} (h:Fm d):(zX d).length≤60:=by
  have e:zX d=NT d:=by unfold zX; rw[Gu.2 h]; rfl
  rw[e]
  exact (Pe h).2.2

theorem fit_N {R:Type}:∀(n:Nat) (x:Raw) (d:Int),Raw.ok x→x.depth<n→1≤d→d≤16→∃v,aay R v d (Raw.tot x)∧∀k:Json→Option R,jT n x d k=k v:=by
  intro n
  induction n with
  | zero=>intro x d _ h; omega
  | succ n ih =>
    intro x d hx hn hd1 XP
    have e0:∀k:Json→Option R,jT (n+1) x d k=n8 ca di eW (bp (jT n)) x d k:=fun k=>rfl
    have hdep:∀z∈x.items,z.depth<n:=fun z hz=>by have:=Sr hz; omega
    obtain ⟨kd,mt,ex,tx,is⟩:=x
    obtain ⟨⟨i1,i2,i3,i4⟩,⟨l1,l2⟩,i5⟩:=hx
    simp only at hdep
    have aaz:Raw.tot ⟨kd,mt,ex,tx,is⟩=Raw.totL is+1:=rfl
    obtain ⟨y,y0,y1,hy⟩:=pick04 (R:=R) kd 7 i1 (by omega) (by omega)
    have hw:IntKind.i64.wrap (1+y)=1+y:=dE (by omega) (by omega)
    have hq:y=0∨y=1∨y=2∨y=3∨y=4∨y=5∨y=6:=by omega
    have hlp:∀q:Int,q=6∨q=7→∃LG LH,Xh q d LG LH (Raw.totL is)∧∀e0,bp (R:=R) (jT n) (Int.natAbs d+Int.natAbs q+Int.natAbs 0+Raw.fu ⟨kd,mt,ex,tx,is⟩+Int.natAbs 0+Int.natAbs 0+Int.natAbs 0+List.length ([]:aj)+Int.natAbs q+Int.natAbs 0+Int.natAbs 0+List.length ([]:aj)+List.length ([]:List aj)+List.length ([]:List Json)+64) d q ((0:Nat):Int) ⟨kd,mt,ex,tx,is⟩ 0 0 0 [] q 0 0 [] [] [] e0=e0 0 0 0 [] q 0 0 [] LG LH:=fun q hq=>by
      refine Uk (jT n) d ⟨hd1,XP⟩ q hq ⟨kd,mt,ex,tx,is⟩ l2 i5 (fun Sl z hz=>ih z (d+1) (QD i5 hz) (hdep z hz) (by omega) (by omega)) _ 0 [] [] (by omega) (by simp only[Raw.fu]; omega) (by simp) ⟨rfl,rfl,by simp,?_⟩
      rcases hq with rfl|rfl
      · exact .inr ⟨rfl,rfl,by simp[pK]⟩
      · exact .inl ⟨rfl,rfl,rfl,by simp,by simp[oQ]⟩
    have QK:∀q:Int,q=1∨q=2∨q=3→aay R ⟨q,⟨0,0⟩, [], [], []⟩ d (Raw.totL is+1):=fun q hq=>by
      refine ⟨oz.2 (.name q d XP hq),rfl,?_⟩
      rcases hq with rfl|rfl|rfl
      · show po.length+5000≤_
        have:po.length=4:=rfl
        omega
      · show ly.length+5000≤_
        have:ly.length=5:=rfl
        omega
      · show sJ.length+5000≤_
        have:sJ.length=4:=rfl
        omega
    rw[aaz]
    rcases hq with rfl|rfl|rfl|rfl|rfl|rfl|rfl
    · refine ⟨_,QK 1 (by omega),fun k => ?_⟩
      rw[e0]
      unfold n8
      rw[hy]
      rfl
    · refine ⟨_,QK 2 (by omega),fun k => ?_⟩
      rw[e0]
      unfold n8
      rw[hy]
      rfl
    · refine ⟨_,QK 3 (by omega),fun k => ?_⟩
      rw[e0]
      unfold n8
      rw[hy]
      rfl
    · obtain ⟨dc,hdc,mV⟩:=fit_ok (R:=R) mt ex i2 i3
      refine ⟨⟨4,dc, [], [], []⟩,⟨oz.2 (.num dc d XP hdc),rfl,?_⟩,fun k => ?_⟩
      · show (zX dc).length+5000≤_
        have:=aaA hdc
        omega
      · rw[e0]
        unfold n8
        rw[hy]
        show di mt ex _=_
        rw[mV]
        rfl
    · have XI:min (tx.length:Int) 20=((min tx.length 20:Nat):Int):=by omega
      obtain ⟨rs,r1,r2,r3,r4⟩:=RT (R:=R) (tx.take (min tx.length 20)) (fun c hc=>i4 c (List.mem_of_mem_take hc))
      have hqt:=QE (cQ rs)
      refine ⟨⟨5,⟨0,0⟩,cQ rs, [], []⟩,⟨oz.2 (.text _ d XP (Dz.2 ⟨rs,r1,rfl⟩)),B9.2 ⟨by simp,by simp,rfl,by simp only; omega,by simp⟩,?_⟩,fun k => ?_⟩
      · show (Ld (cQ rs)).length+5000≤_
        omega
      · rw[e0]
        unfold n8
        rw[hy]
        show cU (decide ((0:Int)≤(min (tx.length:Int) 20))&&decide ((min (tx.length:Int) 20)≤(tx.length:Int))) (cU (decide ((0:Int)≤(min (tx.length:Int) 20))) (ca ((tx.drop 0).take ((min (tx.length:Int) 20).toNat - 0)) _))=_
        rw[XI,aS (by rw[br (by omega),br (by omega)]; rfl),aS (br (by omega)),Int.toNat_natCast,List.drop_zero,Nat.sub_zero,r4]
        rfl
    · obtain ⟨LG,LH,hh,mV⟩:=hlp 6 (.inl rfl)
      refine ⟨_,hh.fit XP (Nat.le_refl _),fun k => ?_⟩
      rw[e0]
      unfold n8
      rw[hy]
      exact mV _
    · obtain ⟨LG,LH,hh,mV⟩:=hlp 7 (.inr rfl)
      refine ⟨_,hh.fit XP (Nat.le_refl _),fun k => ?_⟩
      rw[e0]
      unfold n8
      rw[hy]
      exact mV _

theorem jfit {R:Type} (x:Raw) (hx:Raw.ok x) (d:Int) (h1:1≤d) (h2:d≤16):∃v,aay R v d (Raw.tot x)∧∀k:Json→Option R,iI x d k=k v:=fit_N (x.depth+2) x d hx (by omega) h1 h2

theorem aaB {R:Type} (a b:List aj) (hl:a.length=b.length) (ha:a.length≤1099511627776) (k:Bool→Option R):∀(F i:Nat),i≤a.length→a.length - i<F →
    aT F a b (a.length:Int) (i:Int) (k true) k=k (decide (a.drop i=b.drop i)):=by
  intro F
  induction F with
  | zero=>intro i _ h; omega
  | succ F ih =>
    intro i hi hF
    show iO (fun x0 x1 x2 x3=>aT F x0 x1 x2 x3 _ _) a b (a.length:Int) (i:Int) _ _=_
    unfold iO
    by_cases h:i<a.length
    · have hb:i<b.length:=by omega
      have h1:decide ((i:Int)<(a.length:Int))=true:=by simp; omega
      have h2:(decide ((0:Int)≤(i:Int))&&true)=true:=by simp
      have h3:(decide ((0:Int)≤(i:Int))&&decide ((i:Int)<(b.length:Int)))=true:=by simp; omega
      have hw:IntKind.i64.wrap ((i:Int)+1)=((i+1:Nat):Int):=by rw[dE (by omega) (by omega)]; omega
      have hg:a.getD (i:Int).toNat (Ty.ck .str)=a[i]:=getD_at h _
      have hg':b.getD (i:Int).toNat (Ty.ck .str)=b[i]:=getD_at hb _
      rw[h1,cond_true,aS h2,aS h3,hg,hg',hw,List.drop_eq_getElem_cons h,List.drop_eq_getElem_cons hb]
      by_cases hq:a[i]=b[i]
      · have e:(a[i]==b[i])=true:=by simpa using hq
        rw[e,Bool.not_true,cond_false]
        simp only[List.cons.injEq,hq,true_and]
        exact ih (i+1) (by omega) (by omega)
      · have e:(a[i]==b[i])=false:=by simpa using hq
        rw[e,Bool.not_false,cond_true]
        have kq:¬(a[i]::a.drop (i+1)=b[i]::b.drop (i+1)):=fun h=>hq (List.cons.inj h).1
        rw[decide_eq_false kq]
    · have h1:decide ((i:Int)<(a.length:Int))=false:=by simp; omega
      rw[h1,cond_false,List.drop_eq_nil_of_le (by omega),List.drop_eq_nil_of_le (by omega)]
      simp
theorem Xi {R:Type} (a b:List aj) (ha:a.length≤1099511627776) (k:Bool→Option R):cb a b k=k (decide (a=b)):=by
  have e:cb a b k=bif ((a.length:Int) != (b.length:Int))then (k false)else (aT (List.length a+List.length b+Int.natAbs (a.length:Int)+Int.natAbs 0+64) a b (a.length:Int) 0 (k true) (fun y7=>k y7)):=rfl
  rw[e]
  by_cases hl:a.length=b.length
  · have h1:((a.length:Int) != (b.length:Int))=false:=by rw[hl]; simp
    have:=aaB a b hl ha k (List.length a+List.length b+Int.natAbs (a.length:Int)+Int.natAbs 0+64) 0 (by omega) (by omega)
    rw[h1,cond_false]
    rw[List.drop_zero,List.drop_zero]at this
    exact this
  · have h1:((a.length:Int) != (b.length:Int))=true:=by simp; omega
    have:a≠b:=fun e=>hl (by rw[e])
    rw[h1,cond_true]
    simp[this]

theorem aaC {R:Type} (f:cA R) (a b:List Json) (hl:a.length=b.length) (ha:a.length≤1099511627776) (hf:∀x∈a,∀y∈b,∃r:Bool,(r=true↔x=y)∧∀k,f x y k=k r):∀(F i:Nat),i≤a.length→a.length - i<F →
    ∃r:Bool,(r=true↔a.drop i=b.drop i)∧∀k:Bool→Option R,aw f F b a (a.length:Int) (i:Int) (k true) k=k r:=by
  intro F
  induction F with
  | zero=>intro i _ h; omega
  | succ F ih =>
    intro i hi hF
    by_cases h:i<a.length
    · have hb:i<b.length:=by omega
      have h1:decide ((i:Int)<(a.length:Int))=true:=by simp; omega
      have h2:(decide ((0:Int)≤(i:Int))&&true)=true:=by simp
      have h3:(decide ((0:Int)≤(i:Int))&&decide ((i:Int)<(b.length:Int)))=true:=by simp; omega
      have hw:IntKind.i64.wrap ((i:Int)+1)=((i+1:Nat):Int):=by rw[dE (by omega) (by omega)]; omega
      have hg:a.getD (i:Int).toNat (Ty.ck .json)=a[i]:=getD_at h _
      have hg':b.getD (i:Int).toNat (Ty.ck .json)=b[i]:=getD_at hb _
      obtain ⟨r,hr,hk⟩:=hf a[i] (List.getElem_mem h) b[i] (List.getElem_mem hb)
      obtain ⟨r2,hr2,Hq⟩:=ih (i+1) (by omega) (by omega)
      refine ⟨r&&r2,?_,fun k => ?_⟩
      · rw[List.drop_eq_getElem_cons h,List.drop_eq_getElem_cons hb]
        simp only[Bool.and_eq_true,hr,hr2,List.cons.injEq]
      · show cW f (fun x0 x1 x2 x3=>aw f F x0 x1 x2 x3 (k true) k) b a (a.length:Int) (i:Int) (k true) k=_
        unfold cW
        simp only[Json.eta]
        rw[h1,cond_true,aS h2,aS h3,hg,hg',hk,hw,Hq]
        cases r <;> rfl
    · refine ⟨true,?_,fun k => ?_⟩
      · rw[List.drop_eq_nil_of_le (by omega),List.drop_eq_nil_of_le (by omega)]
        simp
      · show cW f (fun x0 x1 x2 x3=>aw f F x0 x1 x2 x3 (k true) k) b a (a.length:Int) (i:Int) (k true) k=_
        unfold cW
        have h1:decide ((i:Int)<(a.length:Int))=false:=by simp; omega
        rw[h1]
        rfl
theorem Xj {R:Type} (f:cA R) (a b:List Json) (ha:a.length≤1099511627776) (hf:∀x∈a,∀y∈b,∃r:Bool,(r=true↔x=y)∧∀k,f x y k=k r) :
    ∃r:Bool,(r=true↔a=b)∧∀k:Bool→Option R,bh f a b k=k r:=by
  have e:∀k,bh f a b k=bif ((a.length:Int) != (b.length:Int))then (k false)else (aw f (List.length b+List.length a+Int.natAbs (a.length:Int)+Int.natAbs 0+64) b a (a.length:Int) 0 (k true) (fun y8=>k y8)):=fun k=>rfl
  by_cases hl:a.length=b.length
  · have h1:((a.length:Int) != (b.length:Int))=false:=by rw[hl]; simp
    obtain ⟨r,hr,hk⟩:=aaC f a b hl ha hf (List.length b+List.length a+Int.natAbs (a.length:Int)+Int.natAbs 0+64) 0 (by omega) (by omega)
    rw[List.drop_zero,List.drop_zero]at hr
    refine ⟨r,hr,fun k => ?_⟩
    rw[e,h1,cond_false]
    exact hk k
  · have h1:((a.length:Int) != (b.length:Int))=true:=by simp; omega
    refine ⟨false,?_,fun k => ?_⟩
    · constructor
      · intro h; cases h
      · rintro rfl; exact (hl rfl).elim
    · rw[e,h1,cond_true]

theorem jsame_N {R:Type}:∀(n:Nat) (v w:Json),Le v=true→v.depth<n→∃r:Bool,(r=true↔v=w)∧∀k:Bool→Option R,kK n v w k=k r:=by
  intro n
  induction n with
  | zero=>intro v w _ h; omega
  | succ n ih =>
    intro v w hl hd
    obtain ⟨H0,KH,VZ,_⟩:=B9.1 hl
    obtain ⟨r,hr,hk⟩:=Xj (R:=R) (kK n) v.items w.items KH fun x hx y _=>ih x y (F7 VZ hx) (by have:=F8 hx; omega)
    have e0:∀k:Bool→Option R,kK (n+1) v w k=CU (bh (kK n)) cb v w k:=fun k=>rfl
    obtain ⟨k1,⟨m1,x1⟩,t1,ns1,is1⟩:=v
    obtain ⟨k2,⟨m2,x2⟩,t2,ns2,is2⟩:=w
    refine ⟨(k1==k2)&&((m1==m2&&(x1==x2&&true))&&((t1==t2)&&(decide (ns1=ns2)&&r))),?_,fun k => ?_⟩
    · simp only[Bool.and_eq_true,beq_iff_eq,decide_eq_true_eq,hr,Json.mk.injEq,iZ.mk.injEq]
      constructor
      · rintro ⟨h1,⟨h2,h3,_⟩,h4,h5,h6⟩; exact ⟨h1,⟨h2,h3⟩,h4,h5,h6⟩
      · rintro ⟨h1,⟨h2,h3⟩,h4,h5,h6⟩; exact ⟨h1,⟨h2,h3,trivial⟩,h4,h5,h6⟩
    · rw[e0]
      unfold CU
      simp only
      rw[Xi ns1 ns2 H0]
      simp only[hk]
      cases k1==k2 <;> cases (m1==m2&&(x1==x2&&true)) <;> cases t1==t2 <;> cases decide (ns1=ns2) <;> rfl

theorem jsame {R:Type} (v w:Json) (hl:Le v=true):∃r:Bool,(r=true↔v=w)∧∀k:Bool→Option R,dR v w k=k r:=jsame_N (v.depth+2) v w hl (by omega)
end Go.Proofs.YtmlkkgfenfdndaaGreatDoor

/-
  Functions of the program as pure Lean functions, and the ties; printed by wip/tools/emit.py.
-/
set_option maxRecDepth 100000
namespace Go.Proofs.YtmlkkgfenfdndaaGreatDoor
open Go Go.ay

end Go.Proofs.YtmlkkgfenfdndaaGreatDoor

/-
  Functions of the program as pure Lean functions, and the ties; printed by wip/tools/emit.py.
-/
set_option maxRecDepth 100000
namespace Go.Proofs.YtmlkkgfenfdndaaGreatDoor
open Go Go.ay

end Go.Proofs.YtmlkkgfenfdndaaGreatDoor

/-
  Functions of the program as pure Lean functions, and the ties; printed by wip/tools/emit.py.
-/
set_option maxRecDepth 100000
namespace Go.Proofs.YtmlkkgfenfdndaaGreatDoor
open Go Go.ay

end Go.Proofs.YtmlkkgfenfdndaaGreatDoor

/-
  Functions of the program as pure Lean functions, and the ties; printed by wip/tools/emit.py.
-/
set_option maxRecDepth 100000
namespace Go.Proofs.YtmlkkgfenfdndaaGreatDoor
open Go Go.ay

end Go.Proofs.YtmlkkgfenfdndaaGreatDoor

/-
  Functions of the program as pure Lean functions, and the ties; printed by wip/tools/emit.py.
-/
set_option maxRecDepth 100000
namespace Go.Proofs.YtmlkkgfenfdndaaGreatDoor
open Go Go.ay

end Go.Proofs.YtmlkkgfenfdndaaGreatDoor

set_option maxRecDepth 100000
namespace Go.Proofs.YtmlkkgfenfdndaaGreatDoor
open Go Go.ay Go.Lib

theorem aaD {x:Raw} (h:∃n,NU n (Ty.cells .raw x)∧n≤1048576):Raw.ok x∧Raw.tot x≤1048576:=by
  obtain ⟨n,h1,h2⟩:=h
  obtain ⟨g1,g2⟩:=aaw x n h2 h1
  exact ⟨g2,by omega⟩

def Fq:aj := [13,10,32]
def spread (l:List mh):List mh:=l.map fun x=>(Fq,x.2.1,x.2.2)
theorem Xk (l:List mh):(spread l).map Sn=l.map Sn:=by
  unfold spread
  rw[List.map_map]
  exact List.map_congr_left fun x _=>rfl
structure Lone (x:mh):Prop where
  head:∃c u,x.2.1=c::u∧qT c=false
  met:∀r,F6 r→tokS (x.2.1++r)=some (x.2.2,r)
  quo:x.2.2.kind=2→gM x.2.2.text=true∧x.2.1=Ld x.2.2.text
  own:x.2.2.kind≠2→x.2.2.text=x.2.1

theorem Gv {x:mh} (h:∀r,F6 r→okW [x] r) (h2:x.2.2.kind=2→gM x.2.2.text=true∧x.2.1=Ld x.2.2.text) (h3:x.2.2.kind≠2→x.2.2.text=x.2.1):Lone x:=by
  obtain ⟨_,g2,_⟩:=h [] (.inl rfl)
  exact ⟨g2,fun r hr=>(h r hr).2.2.1,h2,h3⟩
theorem EH {c:UInt8} (hc:HU c=true):Lone (sg c):=Gv (fun r _=>zW hc r) (fun h=>by cases h) (fun _=>rfl)
theorem Vj {t:aj} (ht:gM t=true):Lone (T8 t):=Gv (fun r _=>Np ht r) (fun _=>⟨ht,rfl⟩) (fun h=>(h rfl).elim)

mutual
theorem aaE:∀(v:Json) (d:Int),gR v d=true→∀x∈j2 v,Lone x
  | ⟨k,n,t,ns,is⟩,d,h,x,hx=>by
    have hL:=loneL is
    have hO:=loneO ns is
    cases oz.1 h with
    | name _ _ hd hk =>
      rcases hk with rfl|rfl|rfl
      · obtain rfl:=List.mem_singleton.1 hx
        exact Gv (fun r hr=>zV (BN (.inr (.inr rfl))) hr) (fun h=>by cases h) (fun _=>rfl)
      · obtain rfl:=List.mem_singleton.1 hx
        exact Gv (fun r hr=>zV (BN (.inr (.inl rfl))) hr) (fun h=>by cases h) (fun _=>rfl)
      · obtain rfl:=List.mem_singleton.1 hx
        exact Gv (fun r hr=>zV (BN (.inl rfl)) hr) (fun h=>by cases h) (fun _=>rfl)
    | num _ _ hd hn =>
      have e:zX n=NT n:=by unfold zX; rw[Gu.2 hn]; rfl
      have RE:x∈([([],zX n,⟨3,zX n,n,0⟩)]:List mh):=hx
      obtain rfl:=List.mem_singleton.1 RE
      refine Gv (fun r hr => ?_) (fun h=>by cases h) (fun _=>rfl)
      rw[e]
      exact zV (Sh hn) hr
    | text _ _ hd ht =>
      have RE:x∈([T8 t]:List mh):=hx
      obtain rfl:=List.mem_singleton.1 RE
      exact Vj ht
    | arr _ _ hd hi =>
      have RE:x∈([sg 91]++(pL is true ++ [sg 93]):List mh):=hx
      rw[List.mem_append,List.mem_append,List.mem_singleton,List.mem_singleton]at RE
      rcases RE with rfl|hx|rfl
      · exact EH (by decide)
      · exact hL true (d+1) hi x hx
      · exact EH (by decide)
    | obj _ _ _ hd hl hu hi =>
      have RE:x∈([sg 123]++(nI ns is true ++ [sg 125]):List mh):=hx
      rw[List.mem_append,List.mem_append,List.mem_singleton,List.mem_singleton]at RE
      rcases RE with rfl|hx|rfl
      · exact EH (by decide)
      · exact hO true (d+1) hi hl (fun t ht=>EF ns [] hu t ht) x hx
      · exact EH (by decide)
theorem loneL:∀(l:List Json) (first:Bool) (d:Int),gV l d=true→∀x∈pL l first,Lone x
  | [],_,_,_,x,hx=>by simp[pL]at hx
  | y::l,first,d,h,x,hx=>by
    simp only[gV,Bool.and_eq_true]at h
    have h1:=aaE y d h.1
    have h2:=loneL l false d h.2
    simp only[pL,List.mem_append]at hx
    rcases hx with hx|hx|hx
    · cases first
      · simp at hx; rw[hx]; exact EH (by decide)
      · simp at hx
    · exact h1 x hx
    · exact h2 x hx
theorem loneO:∀(ns:List aj) (l:List Json) (first:Bool) (d:Int),gV l d=true→ns.length=l.length→(∀t∈ns,gM t=true)→∀x∈nI ns l first,Lone x
  | _, [],_,_,_,_,_,x,hx=>by simp[nI]at hx
  | [],y::l,_,_,_,hl,_,_,_=>by cases hl
  | n::ns,y::l,first,d,h,hl,hv,x,hx=>by
    simp only[gV,Bool.and_eq_true]at h
    have h1:=aaE y d h.1
    have h2:=loneO ns l false d h.2 (by simpa using hl) (fun t ht=>hv t (by simp[ht]))
    simp only[nI,List.headD_cons,List.tail_cons,List.mem_append,List.mem_cons]at hx
    rcases hx with hx|rfl|rfl|hx|hx
    · cases first
      · simp at hx; rw[hx]; exact EH (by decide)
      · simp at hx
    · exact Vj (hv n (by simp))
    · exact EH (by decide)
    · exact h1 x hx
    · exact h2 x hx
end

theorem Sv (r:aj):F6 (Fq++r) := .inr ⟨13, [10,32]++r,rfl,by decide,by decide⟩
theorem Pq:∀(l:List mh),(∀x∈l,Lone x)→okW (spread l) Fq
  | [],_=>trivial
  | x::l,h=>by
    have hx:=h x (by simp)
    refine ⟨by show ∀b∈Fq,qT b=true; decide,hx.head,hx.met _ ?_,Pq l fun y hy=>h y (by simp[hy])⟩
    cases l with
    | nil=>exact Sv []
    | cons y l=>exact Sv _

def KK (t:Token):aj:=if t.kind=2 then Ld t.text else t.text
def aaF (ts:List Token):aj:=ts.flatMap fun t=>Fq++KK t
theorem NL:∀(l:List mh) (p:Nat) (e:Token),(∀x∈l,Lone x)→e.kind=5→e.text = []→aaF (tokW p l ++ [e])=qI (spread l) Fq
  | [],p,e,_,h1,h2=>by
    show Fq++KK e ++ []=Fq
    unfold KK
    rw[if_neg (by rw[h1]; decide),h2]
    rfl
  | x::l,p,e,h,h1,h2=>by
    have hx:=h x (by simp)
    have ih:=NL l (p+x.1.length+x.2.1.length) e (fun y hy=>h y (by simp[hy])) h1 h2
    have hw:KK (WZ x.2.2 ((p+x.1.length:Nat):Int))=x.2.1:=by
      show (if x.2.2.kind=2 then Ld x.2.2.text else x.2.2.text)=x.2.1
      by_cases hk:x.2.2.kind=2
      · rw[if_pos hk,(hx.quo hk).2]
      · rw[if_neg hk,hx.own hk]
    show (Fq++KK (WZ x.2.2 ((p+x.1.length:Nat):Int)))++aaF (tokW (p+x.1.length+x.2.1.length) l ++ [e])=Fq++(x.2.1++qI (spread l) Fq)
    rw[hw,ih,List.append_assoc]
theorem NM:∀(l:List mh),tight l→(∀x∈l,Lone x)→uK (spread l)=uK l+3*l.length∧l.length≤uK l
  | [],_,_=>⟨rfl,Nat.le_refl _⟩
  | x::l,t,h=>by
    obtain ⟨h1,h2⟩:=NM l (fun y hy=>t y (by simp[hy])) (fun y hy=>h y (by simp[hy]))
    have hx:=t x (by simp)
    obtain ⟨c,u,hc,_⟩:=(h x (by simp)).head
    have e1:uK (spread (x::l))=3+x.2.1.length+uK (spread l):=rfl
    have e2:uK (x::l)=x.1.length+x.2.1.length+uK l:=rfl
    rw[e1,e2,hx,hc,h1]
    simp only[List.length_nil,List.length_cons]
    omega

theorem Sw {R:Type} (ts:List Token) (v:Json) (hts:∀t∈ts,t.kind=2→gM t.text=true∧t.text.length≤1000000) (e0:aj→Json→Option R) (hb:ts.length≤1000000) (hbt:∀t∈ts,t.text.length≤1000000):∀(F i:Nat) (out:aj),i≤ts.length→ts.length - i<F→out.length≤i*7000000 →
    bx F ts out (i:Int) v e0=e0 (out++aaF (ts.drop i)) v:=by
  intro F
  induction F with
  | zero=>intro i out _ h; omega
  | succ F ih =>
    intro i out hi hF ho
    show nE bj (fun lP lQ my tO=>bx F lP lQ my tO e0) ts out (i:Int) v e0=_
    unfold nE
    simp only[Json.eta]
    by_cases h:i<ts.length
    rotate_left
    · have h1:decide ((i:Int)<(ts.length:Int))=false:=by simp; omega
      rw[h1,cond_false,List.drop_eq_nil_of_le (by omega)]
      show e0 out v=e0 (out ++ []) v
      rw[List.append_nil]
    have h1:decide ((i:Int)<(ts.length:Int))=true:=by simp; omega
    have h2:(decide ((0:Int)≤(i:Int))&&true)=true:=by simp
    have hw:IntKind.i64.wrap ((i:Int)+1)=((i+1:Nat):Int):=by rw[dE (by omega) (by omega)]; omega
    have hg:ts.getD (i:Int).toNat (Ty.ck .token)=ts[i]:=getD_at h _
    have hd:aaF (ts.drop i)=Fq++KK ts[i]++aaF (ts.drop (i+1)):=by rw[List.drop_eq_getElem_cons h]; rfl
    have hm:ts[i]∈ts:=List.getElem_mem h
    have c1:decide (out.length+3≤9223372036854775807)=true:=by rw[decide_eq_true_eq]; omega
    have hol:(out++([13,10,32]:aj)).length=out.length+3:=by simp
    rw[h1,cond_true,aS h2,aS h2,hg]
    by_cases hk:ts[i].kind=2
    · obtain ⟨g1,g2⟩:=hts _ hm hk
      have ek:(ts[i].kind==2)=true:=by simpa using hk
      have hwt:KK ts[i]=Ld ts[i].text:=if_pos hk
      have hql:=QE ts[i].text
      obtain ⟨rs,r1,r2,r3,_,r5⟩|⟨r1,_⟩:=Kc (R:=R) ts[i].text (by omega)
      · have eq:qt rs=Ld ts[i].text:=by rw[r3,Jg r1]
        rw[ek,cond_true,r5,eq,aS c1,aS (by rw[hol,decide_eq_true_eq]; omega),hw,ih (i+1) _ (by omega) (by omega) (by rw[List.length_append,hol]; omega),hd,hwt]
        unfold Fq
        simp only[List.append_assoc]
      · rw[g1]at r1; cases r1
    · have ek:(ts[i].kind==2)=false:=by simpa using hk
      have hwt:KK ts[i]=ts[i].text:=if_neg hk
      have OL:=hbt _ hm
      rw[ek,cond_false,aS c1,aS (by rw[hol,decide_eq_true_eq]; omega),hw,ih (i+1) _ (by omega) (by omega) (by rw[List.length_append,hol]; omega),hd,hwt]
      unfold Fq
      simp only[List.append_assoc]

theorem qb_pos (b:UInt8):1≤(qb b).length:=by unfold qb; (repeat' split) <;> simp
theorem qtS_ge (t:aj):t.length≤(Ld t).length:=by
  have:∀l:aj,l.length≤(l.flatMap qb).length:=by
    intro l
    induction l with
    | nil=>simp
    | cons b l ih =>
      have:=qb_pos b
      simp only[List.flatMap_cons,List.length_append,List.length_cons]
      omega
  have:=this t
  unfold Ld
  simp only[List.length_cons,List.length_append]
  omega
theorem tok_of:∀(l:List mh) (p:Nat) (t:Token),t∈tokW p l→∃x∈l,t.kind=x.2.2.kind∧t.text=x.2.2.text∧x.2.1.length≤uK l
  | [],_,t,h=>by cases h
  | x::l,p,t,h=>by
    rcases List.mem_cons.1 h with rfl|h
    · exact ⟨x,by simp,rfl,rfl,by simp only[uK]; omega⟩
    · obtain ⟨y,h1,h2,h3,h4⟩:=tok_of l _ t h
      exact ⟨y,by simp[h1],h2,h3,by simp only[uK]; omega⟩

theorem Lm {R:Type} (x:Raw) (h:∃n,NU n (Ty.cells .raw x)∧n≤1048576) (k:Bool→Option R):qR x k=k true:=by
  obtain ⟨o1,t1⟩:=aaD h
  obtain ⟨v,hv,rv⟩:=jfit (R:=R) x o1 1 (by omega) (by omega)
  have e:qR x k=rQ iI fY dp dA dR dm bx x k:=rfl
  rw[e]
  unfold rQ
  simp only[Raw.eta,Json.eta]
  have pv:=fun q:aj→Option R=>Uh v hv.right hv.len (by have:=hv.size; omega) q
  rw[awake04,rv,pv]
  by_cases hl:(rK v).length>3000
  · have e1:decide (((rK v).length:Int)>3000)=true:=by simp; omega
    rw[e1]
    rfl
  have e1:decide (((rK v).length:Int)>3000)=false:=by simp; omega
  have Z9:=Kg v []
  rw[List.append_nil]at Z9
  have sZ:=Nq v 1 hv.right [] (.inl rfl)
  have hlen:=Nj (j2 v) []
  rw[Z9]at hlen
  have hlw:uK (j2 v)≤3000:=by simp at hlen; omega
  have hs:=KG (j2 v) [] (by simp) sZ (by simp; omega)
  rw[Z9]at hs
  have Vk:=aaE v 1 hv.right
  obtain ⟨sl1,sl2⟩:=NM (j2 v) (Ug v) Vk
  have Zf:=NL (j2 v) 0 ⟨5, [],⟨0,0⟩,((uK (j2 v)+([]:aj).length:Nat):Int)⟩ Vk rfl rfl
  have htk:∀t∈tokW 0 (j2 v) ++ [(⟨5, [],⟨0,0⟩,((uK (j2 v)+([]:aj).length:Nat):Int)⟩:Token)],t.text.length≤1000000∧(t.kind=2→gM t.text=true):=fun t ht=>by
    rcases List.mem_append.1 ht with ht|ht
    · obtain ⟨y,y1,y2,y3,y4⟩:=tok_of _ _ _ ht
      have hy:=Vk y y1
      by_cases hk:y.2.2.kind=2
      · obtain ⟨q1,q2⟩:=hy.quo hk
        have:=qtS_ge y.2.2.text
        rw[←q2]at this
        rw[y3]
        exact ⟨by omega,fun _=>q1⟩
      · rw[y3,hy.own hk]
        exact ⟨by omega,fun h2=>(hk (y2▸h2)).elim⟩
    · obtain rfl:=List.mem_singleton.1 ht
      exact ⟨by simp,fun h2=>by cases h2⟩
  have htl:(tokW 0 (j2 v) ++ [(⟨5, [],⟨0,0⟩,((uK (j2 v)+([]:aj).length:Nat):Int)⟩:Token)]).length=(j2 v).length+1:=by
    have:∀(l:List mh) (p:Nat),(tokW p l).length=l.length:=by
      intro l
      induction l with
      | nil=>intro p; rfl
      | cons x l ih=>intro p; simp[tokW,ih]
    rw[List.length_append,this]
    rfl
  have hparse:Kk (qI (spread (j2 v)) Fq)=(v,0,0):=by
    have hg:Fq.length=3:=rfl
    have h1:=KG (spread (j2 v)) Fq (by decide) (Pq _ Vk) (by rw[sl1,hg]; omega)
    have h2:=aan hv.right (tokW 0 (spread (j2 v))) [⟨5, [],⟨0,0⟩,((uK (spread (j2 v))+Fq.length:Nat):Int)⟩] ((tokW_st _ _).trans (Xk _))
    unfold Kk
    rw[h1]
    simp only[ne_eq,not_true_eq_false,if_false]
    rw[h2]
    rfl
  obtain ⟨r,hr,hsm⟩:=jsame (R:=R) v v hv.len
  have hr':r=true:=hr.2 rfl
  have e0:((0:Int) != 0)=false:=rfl
  have e00:((0:Int)==0)=true:=rfl
  rw[e1,cond_false,Vd,hs]
  simp only
  rw[Bool.not_true,cond_false,e0,cond_false]
  have hlp:=fun (e:aj→Json→Option R) (F:Nat) (hF:(tokW 0 (j2 v) ++ [(⟨5, [],⟨0,0⟩,((uK (j2 v)+([]:aj).length:Nat):Int)⟩:Token)]).length<F)=>Sw (tokW 0 (j2 v) ++ [(⟨5, [],⟨0,0⟩,((uK (j2 v)+([]:aj).length:Nat):Int)⟩:Token)]) v (fun t ht h2=>⟨(htk t ht).2 h2,(htk t ht).1⟩) e (by rw[htl]; omega) (fun t ht=>(htk t ht).1) F 0 [] (by omega) (by omega) (by simp)
  have c0:((0:Nat):Int)=0:=rfl
  rw[c0]at hlp
  rw[hlp _ _ (by omega),List.drop_zero,Zf,List.nil_append,Xd,hparse,e00,cond_true,cond_true]
  show dR v v (fun Ql=>k Ql)=_
  rw[hsm,hr']
end Go.Proofs.YtmlkkgfenfdndaaGreatDoor

set_option maxRecDepth 100000
namespace Go.Proofs.YtmlkkgfenfdndaaGreatDoor.jsonSpread
open Go.ChangeShapes Go.WideShapes Go.ChangeAt Go.RowKit Go.ay Door

theorem run (a0:Raw):aA rO rP (AS qR) bg [.agg [.int .i64 a0.kind, .int .i64 a0.aB, .int .i64 a0.exp, .sl (.int .i64) a0.text .no, .sl .raw a0.items .no]] [] kOk=qR a0 (fun q0=>kOk (.bool q0) []):=by kernel_rfl

theorem aaG (H:Type) (enc:TypeId × Value→H) (W:World) (base:Nat) (args:Array Value) (ds gs:List (DataW H)) (before:List MemPlace)
    (HF:∀(j:Nat) t v,Tryz.f13.params[j]? = some t→args[j]? = some v→Value.okWide Tryz.prog W .any base t v)
    (hW:DataW.Whole enc Tryz.prog Tryz.f13.params.toList Rows.jsonSpreadSpec.vars false W args.toList ds gs before) (hL:laidMetH Tryz.prog Rows.jsonSpreadUptoRow.laid W) (hk:Rows.uptoSmall H (ds++gs)=true) :
    Calls Tryz.prog 13 args W fun e W'=>∃v,e = .returned v∧Rows.jsonSpreadSpec.post enc Tryz.prog Tryz.f13 false true false false W args v W':=by
  have hW':=hW
  obtain ⟨p,q,hA0,hV,hpq,Uu,EY⟩:=hW
  have hA:DataW.TrodAll enc Tryz.prog W 0 (fun _=>true) true [25] args.toList ds p:=hA0
  have HF:∀(j:Nat) t v,(#[25]:Array Nat)[j]? = some t→args[j]? = some v→Value.okWide Tryz.prog W .any base t v:=HF
  obtain ⟨v0,vs0,d0,ds0,p0,q0,UH,rfl,rfl,h0,r0⟩:=trodAll_cons hA
  obtain ⟨rfl,rfl,rfl⟩:=trodAll_nil r0
  obtain rfl:args = #[v0]:=by cases args; simp_all
  have hV':DataW.TrodVars enc Tryz.prog W (fun _=>true) [] gs q:=hV
  obtain ⟨rfl,rfl⟩:=trodVars_none hV'
  have hb:Rows.uptoBulkAll ([d0] ++ [])≤1048576:=of_decide_eq_true hk
  simp only[List.append_nil,Rows.uptoBulkAll]at hb
  obtain ⟨a0,q0,s0⟩:=aaq (T := .raw) (N:=1048576) leaves (by kernel_rfl) (by kernel_rfl) (HF 0 25 v0 rfl rfl) h0 (by omega) (Nat.le_of_ble_eq_true rfl)
  have ra:cH W [] MF [.agg [.int .i64 a0.kind, .int .i64 a0.aB, .int .i64 a0.exp, .sl (.int .i64) a0.text .no, .sl .raw a0.items .no]] #[v0].toList:=(.cons q0 .nil)
  obtain ⟨hsays,hblocks⟩:=lay_met (W:=W) hL
  refine (Ts Tryz.func13 rfl rfl (Fp Unit _ (aO _)) hsays hblocks ra ((run a0).trans (Lm a0 s0 (fun q0=>kOk (.bool q0) [])))).mono fun e W' ⟨he,L⟩=>⟨_,he,?_⟩
  exact Wu (by kernel_rfl) (Ws (by kernel_rfl)) rfl rfl rfl (show Tryz.prog.underlying 4=some .bool by kernel_rfl) hW' L

theorem reads (os:Os) {H:Type} (enc:TypeId × Value→H):(DataW.whole enc Tryz.prog ((JN os).forCall (fun _ _=>0) ⟨#[], #[.agg #[.int .i64 0, .int .i64 0, .int .i64 0, .slice none 0 0, .slice none 0 0]], []⟩).memory Tryz.f13.params.toList Rows.jsonSpreadSpec.vars false (#[.agg #[.int .i64 0, .int .i64 0, .int .i64 0, .slice none 0 0, .slice none 0 0]]:Array Value).toList 8).map (fun x=>(x.1,x.2.1))=some ([.agg [.lit (.int .i64 0), .lit (.int .i64 0), .lit (.int .i64 0), .nil, .nil]], []):=by kernel_rfl
theorem lifted (os:Os) (started:os.Started) (H:Type) (enc:TypeId × Value→H) (F:Stop.Interp) :
    ReturnsInHanded {} Tryz.checked os 13 .any ((Rows.OpenSpec.upto Rows.jsonSpreadSpec).preRow enc Tryz.prog Tryz.f13 Rows.jsonSpreadUptoRow.domain false Rows.jsonSpreadUptoRow.laid) (((Rows.OpenSpec.upto Rows.jsonSpreadSpec).at F).post enc Tryz.prog Tryz.f13 false true false false):=by
  obtain ⟨⟨x1,x2,x3⟩,hx,hx1⟩:=Option.map_eq_some_iff.1 (reads os enc)
  simp only[Prod.mk.injEq]at hx1
  obtain ⟨rfl,rfl⟩:=hx1
  refine returnsInHanded_of_row (C:=Tryz.checked) (s:=Rows.OpenSpec.upto Rows.jsonSpreadSpec) own started (by kernel_rfl) Tryz.func13
    (witness_row_atRef (enc:=enc) (C:=Tryz.checked) false (JN os) #[.agg #[.int .i64 0, .int .i64 0, .int .i64 0, .slice none 0 0, .slice none 0 0]] rfl (by kernel_rfl) (by kernel_rfl) (by kernel_rfl)
      (OpenSpec.preRow_of_cond 8 hx (by kernel_rfl) (fun k hk=>by cases hk; kernel_rfl) (by kernel_rfl) (Zc os _))) ?_
  intro W base args ds gs before HF hW _ wU _ hL _ _
  exact aaG H enc W base args ds gs before HF hW hL (wU _ rfl)

theorem aaH:Rows.JsonSpreadUptoSaid :=
  OpenClaim.holds_of_cond 13 Tryz.f13 rfl rfl rfl rfl rfl rfl rfl ⟨rfl,rfl,rfl,rfl,rfl⟩ rfl rfl rfl rfl rfl (by kernel_rfl) Tryz.func13 (by kernel_rfl)
    (of_decide_eq_true (by kernel_rfl)) (by unfold Func.isWrapper; first|(rw[if_pos (by decide +kernel)]; kernel_rfl)|(rw[if_neg (by decide +kernel)]; exact ⟨rfl,rfl⟩))
    (fun os started H enc _ F=>by rw[OpenClaim.pre_eq_preRow]; exact lifted os started H enc F)

theorem plain (f:FuncId) (fn:Func) (hf:Tryz.pinned.checked.prog.funcNamed "humpyard/humpyardlaw04.JsonSpread" = some f) (hfn:Tryz.pinned.checked.prog.funcs[f]? = some fn) :
    true=Tryz.pinned.checked.prog.looks []∧∀(j:Nat) t,fn.params[j]? = some t→Tryz.pinned.checked.prog.wantsStandIn t=false:=by
  obtain rfl:f=13:=Option.some.inj ((show Tryz.prog.funcNamed "humpyard/humpyardlaw04.JsonSpread" = some 13 by kernel_rfl).symm.trans hf) |>.symm
  obtain rfl:fn=Tryz.f13:=(Option.some.inj (Tryz.func13.symm.trans hfn)).symm
  refine ⟨by kernel_rfl,fun j t ht => ?_⟩
  have zB:Tryz.f13.params.toList.all (fun t => !Tryz.prog.wantsStandIn t)=true:=by kernel_rfl
  have hm:t∈Tryz.f13.params.toList:=Array.mem_toList_iff.2 (Array.mem_of_getElem? ht)
  have:=List.all_eq_true.1 zB t hm
  exact (show Tryz.prog.wantsStandIn t=false by simpa using this)
end Go.Proofs.YtmlkkgfenfdndaaGreatDoor.jsonSpread
namespace Go.Proofs.YtmlkkgfenfdndaaGreatDoor
open Go.RowKit
theorem jsonSpread_card_upto:Rows.JsonSpreadUptoCardSaid :=
  Claim7.holds_tied_plain_at .later [] _ _ _ _ jsonSpread.aaH (fun _ h=>by cases h) (by kernel_rfl) (fun _ h=>by cases h) jsonSpreadUpto_row_tie rfl ⟨rfl,rfl⟩ (by kernel_rfl) rfl jsonSpread.plain (by kernel_rfl)
end Go.Proofs.YtmlkkgfenfdndaaGreatDoor

