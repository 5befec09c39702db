/-
  JsonBack: for every input whose bulk is at most 1048576 the law returns true, and each argument reads behind the call as it read before; part 8 of 8 of the proof: an interpreter of the model's code over typed data, proved sound; the functions that the law reaches, printed as Lean functions and tied; the plain law. Own texts laid one behind the other.
-/
import Derived.Test.YtmlkkgfenfdndaaGreatDoorJsonBackB7
set_option linter.unusedSimpArgs false
set_option linter.unnecessarySimpa false
set_option linter.unusedVariables false
set_option linter.unusedSectionVars false
/-
  Functions of the program as pure Lean functions, and the ties; printed by wip/tools/emit.py.
-/
set_option maxRecDepth 100000
namespace Go.Proofs.YtmlkkgfenfdndaaGreatDoor
open Go Go.ay

/-! ### (*humpyard/json.parser).value -/
abbrev ax (R:Type):Type:=Int→(List Token)→Int→(Json→(List Token)→Int→Option R)→Option R
abbrev ck:List bP := [.leaf (.ptr 0 0), .leaf (.int .i64)]
abbrev cm:List aI := [.cells [.sl .token, .int .i64]]
noncomputable def bJ {R:Type} (fn:ax R):bP.av ck→aI.av cm→(V→az→Option R)→Option R:=fun x y k=>fn x.2.1 y.1.1 y.1.2.1 (fun q0 q1 q2=>k (.agg [.int .i64 q0.kind, .int .i64 q0.num.aB, .int .i64 q0.num.exp, .str q0.text, .sl .str q0.names .no, .sl .json q0.items .no]) [.cells [.sl .token q1 .no, .int .i64 q2]])
/-! ### (*humpyard/json.parser).parts$1 -/
abbrev eW (R:Type):Type:=Bool→Int→Int→Int→aj→(List aj)→Nat→Int→(List Json)→(List Token)→Int→(Bool→Int→Int→Int→aj→(List aj)→Nat→Int→(List Token)→Int→(List Json)→Option R)→(Bool→Int→Int→Int→aj→(List aj)→Nat→Int→(List Json)→(List Token)→Int→Option R)→(Bool→Int→Int→Int→aj→(List aj)→Nat→Int→(List Token)→Int→(List Json)→Option R)→(Bool→Int→Int→Int→aj→(List aj)→Nat→Int→(List Json)→(List Token)→Int→Option R)→Option R
abbrev lu:List bP := [.leaf (.ptr 0 0), .leaf (.ptr 1 0), .leaf (.ptr 2 0), .leaf (.ptr 3 0)]
abbrev lv:List aI := [.cells [.bool], .cells [.int .i64, .int .i64, .int .i64, .str, .Nd .str 4, .row 5], .cells [.ptr 6 0], .cells [.int .i64], .tok, .row .json, .cells [.sl .token, .int .i64]]
noncomputable def se {R:Type} (fn:eW R):bP.av lu→aI.av lv→(V→az→Option R)→Option R:=fun x y k=>fn y.1.1 y.2.1.1 y.2.1.2.1 y.2.1.2.2.1 y.2.1.2.2.2.1 y.2.1.2.2.2.2.1 y.2.1.2.2.2.2.2.1 y.2.2.2.1.1 y.2.2.2.2.2.1 y.2.2.2.2.2.2.1.1 y.2.2.2.2.2.2.1.2.1 (fun q0 q1 q2 q3 q4 q5 q6 q7 q8 q9 MR=>k (.tuple []) [.cells [.bool q0], .cells [.int .i64 q1, .int .i64 q2, .int .i64 q3, .str q4, .sl .str q5 (.own 7), .row 8 q6], .cells [.ptr 6 0], .cells [.int .i64 q7], .dead, .dead, .cells [.sl .token q8 .no, .int .i64 q9], .tok, .row .json MR]) (fun q0 q1 q2 q3 q4 q5 q6 q7 q8 q9 MR=>k (.tuple []) [.cells [.bool q0], .cells [.int .i64 q1, .int .i64 q2, .int .i64 q3, .str q4, .sl .str q5 (.own 7), .row 5 q6], .cells [.ptr 6 0], .cells [.int .i64 q7], .dead, .row .json q8, .cells [.sl .token q9 .no, .int .i64 MR], .tok]) (fun q0 q1 q2 q3 q4 q5 q6 q7 q8 q9 MR=>k (.tuple []) [.cells [.bool q0], .cells [.int .i64 q1, .int .i64 q2, .int .i64 q3, .str q4, .sl .str q5 (.own 4), .row 7 q6], .cells [.ptr 6 0], .cells [.int .i64 q7], .tok, .dead, .cells [.sl .token q8 .no, .int .i64 q9], .row .json MR]) (fun q0 q1 q2 q3 q4 q5 q6 q7 q8 q9 MR=>k (.tuple []) [.cells [.bool q0], .cells [.int .i64 q1, .int .i64 q2, .int .i64 q3, .str q4, .sl .str q5 (.own 4), .row 5 q6], .cells [.ptr 6 0], .cells [.int .i64 q7], .tok, .row .json q8, .cells [.sl .token q9 .no, .int .i64 MR]])
noncomputable def lx (R:Type) (cz:jW R) (ae:ax R):Env R:=fun i=>match i with
  | 90=>some (false,(aA nc nd (uR cz) bg))
  | 42=>some (false,(aA ck cm (bJ ae) bg))
  | _=>none
theorem Aa (R:Type) (ae:ax R) (bR:ay.Spec.Ok Tryz.prog 42 (aA ck cm (bJ ae) bg)):pK Tryz.prog (lx R cz ae):=by
  intro i b sp h
  unfold lx at h
  split at h
  · cases h; exact ⟨(BM R _ (aO _)),fun _ h=>nomatch h⟩
  · cases h; exact ⟨bR,fun _ h=>nomatch h⟩
  · cases h

noncomputable def sW (R:Type):Nat→Option (Hint × cp R):=fun i=>match i with
  | _=>none

noncomputable def ez {R:Type} (cz:jW R) (ae:ax R) (x1:Bool) (x2:Int) (x3:Int) (x4:Int) (x5:aj) (x6:List aj) (x7:Nat) (x8:Int) (x9:List Json) (BN:List Token) (RY:Int) (k0:Bool→Int→Int→Int→aj→(List aj)→Nat→Int→(List Token)→Int→(List Json)→Option R) (k1:Bool→Int→Int→Int→aj→(List aj)→Nat→Int→(List Json)→(List Token)→Int→Option R) (k2:Bool→Int→Int→Int→aj→(List aj)→Nat→Int→(List Token)→Int→(List Json)→Option R) (k3:Bool→Int→Int→Int→aj→(List aj)→Nat→Int→(List Json)→(List Token)→Int→Option R):Option R :=
  bif x1 then (cz x6 BN RY (fun zO Ek Da=>cX (decide ((x6.length+1)*16≤140737488355328)) (bif (Da==0)then (ae (IntKind.i64.wrap (x8+1)) Ek Da (fun F7 GB Kc=>cX (decide ((x9.length+1)*88≤140737488355328)) (cX (decide ((0:Int)≤(x7:Int))&&decide ((x7:Int)<(x9.length+1))) (cX (decide ((x7:Int).toNat<(x9++([(⟨0,⟨0,0⟩,([]:aj),([]:List aj),([]:List Json)⟩:Json)]:List Json)).length)) (k0 x1 x2 x3 x4 x5 (x6++([zO]:List aj)) (x9.length+1) x8 GB Kc ((x9++([(⟨0,⟨0,0⟩,([]:aj),([]:List aj),([]:List Json)⟩:Json)]:List Json)).set ((x7:Int).toNat) (⟨F7.kind,⟨F7.num.aB,F7.num.exp⟩,F7.text,F7.names,F7.items⟩:Json)))))))else (k1 x1 x2 x3 x4 x5 (x6++([zO]:List aj)) x7 x8 x9 Ek Da))))else (bif (RY==0)then (ae (IntKind.i64.wrap (x8+1)) BN RY (fun Hw PQ Nh=>cX (decide ((x9.length+1)*88≤140737488355328)) (cX (decide ((0:Int)≤(x7:Int))&&decide ((x7:Int)<(x9.length+1))) (cX (decide ((x7:Int).toNat<(x9++([(⟨0,⟨0,0⟩,([]:aj),([]:List aj),([]:List Json)⟩:Json)]:List Json)).length)) (k2 x1 x2 x3 x4 x5 x6 (x9.length+1) x8 PQ Nh ((x9++([(⟨0,⟨0,0⟩,([]:aj),([]:List aj),([]:List Json)⟩:Json)]:List Json)).set ((x7:Int).toNat) (⟨Hw.kind,⟨Hw.num.aB,Hw.num.exp⟩,Hw.text,Hw.names,Hw.items⟩:Json)))))))else (k3 x1 x2 x3 x4 x5 x6 x7 x8 x9 BN RY))
noncomputable def bf {R:Type} (ae:ax R):eW R:=fun x1 x2 x3 x4 x5 x6 x7 x8 x9 BN RY k0 k1 k2 k3=>ez cz ae x1 x2 x3 x4 x5 x6 x7 x8 x9 BN RY k0 k1 k2 k3
theorem Bd {R:Type} (cz:jW R) (ae:ax R) (x1:Bool) (x2:Int) (x3:Int) (x4:Int) (x5:aj) (x6:List aj) (x7:Nat) (x8:Int) (x9:List Json) (BN:List Token) (RY:Int) (k:V→az→Option R):iE (tt.mode [.json]) (lx R cz ae) (sW R) false Tryz.f89 (aL Tryz.f89) [.ptr 0 0, .ptr 1 0, .ptr 2 0, .ptr 3 0] [.cells [.bool x1], .cells [.int .i64 x2, .int .i64 x3, .int .i64 x4, .str x5, .sl .str x6 (.own 4), .row 5 x7], .cells [.ptr 6 0], .cells [.int .i64 x8], .tok, .row .json x9, .cells [.sl .token BN .no, .int .i64 RY]] k =
    ez cz ae x1 x2 x3 x4 x5 x6 x7 x8 x9 BN RY (fun q0 q1 q2 q3 q4 q5 q6 q7 q8 q9 MR=>k (.tuple []) [.cells [.bool q0], .cells [.int .i64 q1, .int .i64 q2, .int .i64 q3, .str q4, .sl .str q5 (.own 7), .row 8 q6], .cells [.ptr 6 0], .cells [.int .i64 q7], .dead, .dead, .cells [.sl .token q8 .no, .int .i64 q9], .tok, .row .json MR]) (fun q0 q1 q2 q3 q4 q5 q6 q7 q8 q9 MR=>k (.tuple []) [.cells [.bool q0], .cells [.int .i64 q1, .int .i64 q2, .int .i64 q3, .str q4, .sl .str q5 (.own 7), .row 5 q6], .cells [.ptr 6 0], .cells [.int .i64 q7], .dead, .row .json q8, .cells [.sl .token q9 .no, .int .i64 MR], .tok]) (fun q0 q1 q2 q3 q4 q5 q6 q7 q8 q9 MR=>k (.tuple []) [.cells [.bool q0], .cells [.int .i64 q1, .int .i64 q2, .int .i64 q3, .str q4, .sl .str q5 (.own 4), .row 7 q6], .cells [.ptr 6 0], .cells [.int .i64 q7], .tok, .dead, .cells [.sl .token q8 .no, .int .i64 q9], .row .json MR]) (fun q0 q1 q2 q3 q4 q5 q6 q7 q8 q9 MR=>k (.tuple []) [.cells [.bool q0], .cells [.int .i64 q1, .int .i64 q2, .int .i64 q3, .str q4, .sl .str q5 (.own 4), .row 5 q6], .cells [.ptr 6 0], .cells [.int .i64 q7], .tok, .row .json q8, .cells [.sl .token q9 .no, .int .i64 MR]]):=by kernel_rfl
theorem yx (R:Type) (ae:ax R):∀a∈aQ (aL Tryz.f89),cO (tt.mode [.json]) (lx R cz ae) (sW R) 7 a:=by
  refine bF 0 (by kernel_rfl) fun i hi => ?_
  omega
theorem zC (R:Type) (ae:ax R) (bR:ay.Spec.Ok Tryz.prog 42 (aA ck cm (bJ ae) bg)) (other:ay.Spec R) (ho:ay.Spec.Ok Tryz.prog 89 other):ay.Spec.Ok Tryz.prog 89 (aA lu lv (se (bf ae)) other) :=
  bu ho (bj (TT.mode [.json]) mixed (Aa R ae bR) (keep:=false) rfl rfl rfl rfl 7 (yx R ae)) fun (x:bP.av lu) (y:aI.av lv) k=>Bd cz ae y.1.1 y.2.1.1 y.2.1.2.1 y.2.1.2.2.1 y.2.1.2.2.2.1 y.2.1.2.2.2.2.1 y.2.1.2.2.2.2.2.1 y.2.2.2.1.1 y.2.2.2.2.2.1 y.2.2.2.2.2.2.1.1 y.2.2.2.2.2.2.1.2.1 k

/-! ### (*humpyard/json.parser).list -/
abbrev jX (R:Type):Type:=aj→(List Token)→Int→Bool→Int→Int→Int→aj→Int→((List Token)→Int→Bool→Int→Int→Int→aj→Int→Option R)→((List Token)→Int→Bool→Int→Int→Int→aj→(List aj)→Nat→Int→(List Json)→Option R)→Option R
abbrev ng:List bP := [.leaf (.ptr 0 0), .leaf (.str), .func 89 [] [.ptr 1 0, .ptr 2 0, .ptr 3 0, .ptr 4 0]]
abbrev nh:List aI := [.cells [.sl .token, .int .i64], .cells [.bool], .cells [.int .i64, .int .i64, .int .i64, .str, .cF, .cF], .cells [.ptr 0 0], .cells [.int .i64]]
noncomputable def uS {R:Type} (fn:jX R):bP.av ng→aI.av nh→(V→az→Option R)→Option R:=fun x y k=>fn x.2.1 y.1.1 y.1.2.1 y.2.1.1 y.2.2.1.1 y.2.2.1.2.1 y.2.2.1.2.2.1 y.2.2.1.2.2.2.1 y.2.2.2.2.1.1 (fun q0 q1 q2 q3 q4 q5 q6 q7=>k (.tuple []) [.cells [.sl .token q0 .no, .int .i64 q1], .cells [.bool q2], .cells [.int .i64 q3, .int .i64 q4, .int .i64 q5, .str q6, .cF, .cF], .cells [.ptr 0 0], .cells [.int .i64 q7]]) (fun q0 q1 q2 q3 q4 q5 q6 q7 q8 q9 MR=>k (.tuple []) [.cells [.sl .token q0 .no, .int .i64 q1], .cells [.bool q2], .cells [.int .i64 q3, .int .i64 q4, .int .i64 q5, .str q6, .sl .str q7 (.own 5), .row 6 q8], .cells [.ptr 0 0], .cells [.int .i64 q9], .tok, .row .json MR])
abbrev fw (R:Type):Type:=Nat→aj→(List Token)→Int→Bool→Int→Int→Int→aj→(List aj)→Nat→Int→(List Json)→((List Token)→Int→Bool→Int→Int→Int→aj→(List aj)→Nat→Int→(List Json)→Option R)→Option R
noncomputable def gl (R:Type) (ak:bW R) (bf:eW R) (aq:dk R):Env R:=fun i=>match i with
  | 43=>some (false,(aA gi gk (jV ak) bg))
  | 89=>some (false,(aA lu lv (se bf) bg))
  | 122=>some (false,(aA kv kz (pq aq) bg))
  | _=>none
theorem Cb (R:Type) (ae:ax R) (bR:ay.Spec.Ok Tryz.prog 42 (aA ck cm (bJ ae) bg)):pK Tryz.prog (gl R ak (bf ae) aq):=by
  intro i b sp h
  unfold gl at h
  split at h
  · cases h; exact ⟨(ln R _ (aO _)),fun _ h=>nomatch h⟩
  · cases h; exact ⟨(zC R ae bR _ (aO _)),fun _ h=>nomatch h⟩
  · cases h; exact ⟨(sV R _ (aO _)),fun _ h=>nomatch h⟩
  · cases h

noncomputable def nF {R:Type} (ak:bW R) (bf:eW R) (aq:dk R) (fT:aj→(List Token)→Int→Bool→Int→Int→Int→aj→(List aj)→Nat→Int→(List Json)→Option R) (TB:aj) (Up:List Token) (pH:Int) (s5:Bool) (mQ:Int) (s6:Int) (Cu:Int) (An:aj) (x21:List aj) (x22:Nat) (x23:Int) (WW:List Json) (e0:(List Token)→Int→Bool→Int→Int→Int→aj→(List aj)→Nat→Int→(List Json)→Option R):Option R :=
  bf s5 mQ s6 Cu An x21 x22 x23 WW Up pH (fun IX JA IY IZ NJ Nf PN Ng y33 y34 y35=>bif (y34 != 0)then (e0 y33 y34 IX JA IY IZ NJ Nf PN Ng y35)else (aq TB y33 y34 (fun y69 y70 y71=>bif y69 then (e0 y70 y71 IX JA IY IZ NJ Nf PN Ng y35)else (aq ([44]:aj) y70 y71 (fun y75 y76 y77=>bif (!y75)then (ak 40 y76 y77 (fun y78 y79=>e0 y78 y79 IX JA IY IZ NJ Nf PN Ng y35))else (fT TB y76 y77 IX JA IY IZ NJ Nf PN Ng y35)))))) (fun WR Tl V5 WS WT WU Oz Ro Rp WV V6=>bif (V6 != 0)then (e0 WV V6 WR Tl V5 WS WT WU Oz Ro Rp)else (aq TB WV V6 (fun y80 y81 y82=>bif y80 then (e0 y81 y82 WR Tl V5 WS WT WU Oz Ro Rp)else (aq ([44]:aj) y81 y82 (fun y86 y87 y88=>bif (!y86)then (ak 40 y87 y88 (fun y89 y90=>e0 y89 y90 WR Tl V5 WS WT WU Oz Ro Rp))else (fT TB y87 y88 WR Tl V5 WS WT WU Oz Ro Rp)))))) (fun NM WY YY YZ Y0 WZ Y1 Y2 y55 V7 V8=>bif (V7 != 0)then (e0 y55 V7 NM WY YY YZ Y0 WZ Y1 Y2 V8)else (aq TB y55 V7 (fun y91 y92 y93=>bif y91 then (e0 y92 y93 NM WY YY YZ Y0 WZ Y1 Y2 V8)else (aq ([44]:aj) y92 y93 (fun y97 y98 y99=>bif (!y97)then (ak 40 y98 y99 (fun y100 y101=>e0 y100 y101 NM WY YY YZ Y0 WZ Y1 Y2 V8))else (fT TB y98 y99 NM WY YY YZ Y0 WZ Y1 Y2 V8)))))) (fun V9 Tm Un y61 y62 y63 y64 y65 y66 y67 y68=>bif (y68 != 0)then (e0 y67 y68 V9 Tm Un y61 y62 y63 y64 y65 y66)else (aq TB y67 y68 (fun y102 y103 y104=>bif y102 then (e0 y103 y104 V9 Tm Un y61 y62 y63 y64 y65 y66)else (aq ([44]:aj) y103 y104 (fun y108 y109 y110=>bif (!y108)then (ak 40 y109 y110 (fun y111 y112=>e0 y111 y112 V9 Tm Un y61 y62 y63 y64 y65 y66))else (fT TB y109 y110 V9 Tm Un y61 y62 y63 y64 y65 y66))))))
noncomputable def aK {R:Type} (ae:ax R):fw R
  | 0,_,_,_,_,_,_,_,_,_,_,_,_,_=>none
  | n+1,l0,l7,nj,vj,D1,D2,KA,KB,KC,KD,zT,FC,e0=>nF ak (bf ae) aq (fun l0 l7 nj vj D1 D2 KA KB KC KD zT FC=>aK ae n l0 l7 nj vj D1 D2 KA KB KC KD zT FC e0) l0 l7 nj vj D1 D2 KA KB KC KD zT FC e0
noncomputable def kQ:Hint := { live := [0,1,2],own := [],rows := [],cells := [(2,4, .str,false),(2,5, .json,true)],drop := [],out := [] }
abbrev dV:Type:=aj × (List Token) × Int × Bool × Int × Int × Int × aj × (List aj) × Nat × Int × (List Json)
noncomputable def jH:dV→St:=fun d=>⟨[.ptr 0 0, .str d.1, .func 89 [] [.ptr 1 0, .ptr 2 0, .ptr 3 0, .ptr 4 0], .undef, .undef, .undef, .undef, .undef, .undef, .undef, .undef, .undef, .undef, .undef, .undef, .undef, .undef, .undef, .undef, .undef, .undef, .undef, .undef, .undef, .undef, .undef], [.cells [.sl .token d.2.1 .no, .int .i64 d.2.2.1], .cells [.bool d.2.2.2.1], .cells [.int .i64 d.2.2.2.2.1, .int .i64 d.2.2.2.2.2.1, .int .i64 d.2.2.2.2.2.2.1, .str d.2.2.2.2.2.2.2.1, .sl .str d.2.2.2.2.2.2.2.2.1 (.own 5), .row 6 d.2.2.2.2.2.2.2.2.2.1], .cells [.ptr 0 0], .cells [.int .i64 d.2.2.2.2.2.2.2.2.2.2.1], .tok, .row .json d.2.2.2.2.2.2.2.2.2.2.2]⟩
noncomputable def np {R:Type} (K:Ex→St→Option R) (q0:List Token) (q1:Int) (q2:Bool) (q3:Int) (q4:Int) (q5:Int) (q6:aj) (q7:List aj) (q8:Nat) (q9:Int) (MR:List Json):Option R:=K (.ret) ⟨[.undef, .undef, .undef, .undef, .undef, .undef, .undef, .undef, .undef, .undef, .undef, .undef, .undef, .undef, .undef, .undef, .undef, .undef, .undef, .undef, .undef, .undef, .undef, .undef, .undef, .undef], [.cells [.sl .token q0 .no, .int .i64 q1], .cells [.bool q2], .cells [.int .i64 q3, .int .i64 q4, .int .i64 q5, .str q6, .sl .str q7 (.own 5), .row 6 q8], .cells [.ptr 0 0], .cells [.int .i64 q9], .tok, .row .json MR]⟩
noncomputable def nG {R:Type} (ak:bW R) (bf:eW R) (aq:dk R) (K:Ex→St→Option R) (rc:dV→Option R) (d:dV):Option R:=nF ak bf aq (fun z0 z1 z2 z3 z4 z5 z6 z7 z8 z9 PR vD=>rc (z0,z1,z2,z3,z4,z5,z6,z7,z8,z9,PR,vD)) d.1 d.2.1 d.2.2.1 d.2.2.2.1 d.2.2.2.2.1 d.2.2.2.2.2.1 d.2.2.2.2.2.2.1 d.2.2.2.2.2.2.2.1 d.2.2.2.2.2.2.2.2.1 d.2.2.2.2.2.2.2.2.2.1 d.2.2.2.2.2.2.2.2.2.2.1 d.2.2.2.2.2.2.2.2.2.2.2 (np K)
noncomputable def fS {R:Type} (ae:ax R) (K:Ex→St→Option R) (n:Nat) (d:dV):Option R:=aK ae n d.1 d.2.1 d.2.2.1 d.2.2.2.1 d.2.2.2.2.1 d.2.2.2.2.2.1 d.2.2.2.2.2.2.1 d.2.2.2.2.2.2.2.1 d.2.2.2.2.2.2.2.2.1 d.2.2.2.2.2.2.2.2.2.1 d.2.2.2.2.2.2.2.2.2.2.1 d.2.2.2.2.2.2.2.2.2.2.2 (np K)
abbrev dW:List bP := [.leaf (.ptr 0 0), .leaf (.str), .func 89 [] [.ptr 1 0, .ptr 2 0, .ptr 3 0, .ptr 4 0], .leaf (.undef), .leaf (.undef), .leaf (.undef), .leaf (.undef), .leaf (.undef), .leaf (.undef), .leaf (.undef), .leaf (.undef), .leaf (.undef), .leaf (.undef), .leaf (.undef), .leaf (.undef), .leaf (.undef), .leaf (.undef), .leaf (.undef), .leaf (.undef), .leaf (.undef), .leaf (.undef), .leaf (.undef), .leaf (.undef), .leaf (.undef), .leaf (.undef), .leaf (.undef)]
abbrev dX:List aI := [.cells [.sl .token, .int .i64], .cells [.bool], .cells [.int .i64, .int .i64, .int .i64, .str, .Nd .str 5, .row 6], .cells [.ptr 0 0], .cells [.int .i64], .tok, .row .json]
noncomputable def nH (x:bP.av dW) (y:aI.av dX):Nat:=(List.length x.2.1+List.length y.1.1+Int.natAbs y.1.2.1+Int.natAbs y.2.2.1.1+Int.natAbs y.2.2.1.2.1+Int.natAbs y.2.2.1.2.2.1+List.length y.2.2.1.2.2.2.1+List.length y.2.2.1.2.2.2.2.1+Int.natAbs y.2.2.2.2.1.1+List.length y.2.2.2.2.2.2.1+64)
noncomputable def nI (x:bP.av dW) (y:aI.av dX):dV:=(x.2.1,y.1.1,y.1.2.1,y.2.1.1,y.2.2.1.1,y.2.2.1.2.1,y.2.2.1.2.2.1,y.2.2.1.2.2.2.1,y.2.2.1.2.2.2.2.1,y.2.2.1.2.2.2.2.2.1,y.2.2.2.2.1.1,y.2.2.2.2.2.2.1)
noncomputable def nq {R:Type} (L:fw R):bP.av dW→aI.av dX→(Ex→St→Option R)→Option R:=fun x y K=>L (nH x y) x.2.1 y.1.1 y.1.2.1 y.2.1.1 y.2.2.1.1 y.2.2.1.2.1 y.2.2.1.2.2.1 y.2.2.1.2.2.2.1 y.2.2.1.2.2.2.2.1 y.2.2.1.2.2.2.2.2.1 y.2.2.2.2.1.1 y.2.2.2.2.2.2.1 (np K)
noncomputable def kA (R:Type) (aK:fw R):Nat→Option (Hint × cp R):=fun i=>match i with
  | 1=>some (kQ,(gE dW dX (nq aK) qB))
  | _=>none

theorem yy {R:Type} (ak:bW R) (bf:eW R) (aq:dk R) (aK:fw R) (K:Ex→St→Option R) (rc:St→Option R) (d:dV):roundOf (tt.mode [.json]) (gl R ak bf aq) (kA R aK) 5 ((aQ (aL Tryz.f88)).getD 0 .skip) kQ (jH d) rc K=nG ak bf aq K (fun d=>rc (jH d)) d:=by kernel_rfl
theorem xl {R:Type} (ae:ax R) (K:Ex→St→Option R) (n:Nat) (d:dV):fS ae K (n+1) d=nG ak (bf ae) aq K (fS ae K n) d:=by kernel_rfl
theorem xm {R:Type} (ae:ax R) (K:Ex→St→Option R) (d:dV):fS ae K 0 d=none:=by kernel_rfl
theorem yz (x:bP.av dW) (y:aI.av dX):(⟨bP.cT dW x,aI.cT dX y⟩:St)=jH (nI x y):=by kernel_rfl
theorem yA {R:Type} (ae:ax R) (x:bP.av dW) (y:aI.av dX) (K:Ex→St→Option R):nq (aK ae) x y K=fS ae K (nH x y) (nI x y):=by kernel_rfl
theorem Ab {R:Type} (ae:ax R) (other:cp R) (ho:pG (tt.mode [.json]) (gl R ak (bf ae) aq) (kA R (aK ae)) 5 ((aQ (aL Tryz.f88)).getD 0 .skip) kQ other):pG (tt.mode [.json]) (gl R ak (bf ae) aq) (kA R (aK ae)) 5 ((aQ (aL Tryz.f88)).getD 0 .skip) kQ (gE dW dX (nq (aK ae)) other) :=
  gW (A:=fS ae) ho (k9 jH (nG ak (bf ae) aq) (fS ae) (xm ae) (yy ak (bf ae) aq (aK ae)) (xl ae)) nH nI yz (yA ae)

noncomputable def v8 {R:Type} (aq:dk R) (aK:fw R) (x1:aj) (x2:List Token) (x3:Int) (x4:Bool) (x5:Int) (x6:Int) (x7:Int) (x8:aj) (x9:Int) (k0:(List Token)→Int→Bool→Int→Int→Int→aj→Int→Option R) (k1:(List Token)→Int→Bool→Int→Int→Int→aj→(List aj)→Nat→Int→(List Json)→Option R):Option R :=
  aq x1 x2 x3 (fun yf wc zO=>bif yf then (k0 wc zO x4 x5 x6 x7 x8 x9)else (aK (List.length x1+List.length wc+Int.natAbs zO+Int.natAbs x5+Int.natAbs x6+Int.natAbs x7+List.length x8+List.length ([]:List aj)+Int.natAbs x9+List.length ([]:List Json)+64) x1 wc zO x4 x5 x6 x7 x8 ([]:List aj) 0 x9 ([]:List Json) (fun y113 y114 y115 y116 y117 y118 y119 y120 y121 y122 y123=>k1 y113 y114 y115 y116 y117 y118 y119 y120 y121 y122 y123)))
noncomputable def bH {R:Type} (ae:ax R):jX R:=fun x1 x2 x3 x4 x5 x6 x7 x8 x9 k0 k1=>v8 aq (aK ae) x1 x2 x3 x4 x5 x6 x7 x8 x9 k0 k1
theorem CN {R:Type} (ak:bW R) (bf:eW R) (aq:dk R) (aK:fw R) (x1:aj) (x2:List Token) (x3:Int) (x4:Bool) (x5:Int) (x6:Int) (x7:Int) (x8:aj) (x9:Int) (k:V→az→Option R):iE (tt.mode [.json]) (gl R ak bf aq) (kA R aK) false Tryz.f88 (aL Tryz.f88) [.ptr 0 0, .str x1, .func 89 [] [.ptr 1 0, .ptr 2 0, .ptr 3 0, .ptr 4 0]] [.cells [.sl .token x2 .no, .int .i64 x3], .cells [.bool x4], .cells [.int .i64 x5, .int .i64 x6, .int .i64 x7, .str x8, .cF, .cF], .cells [.ptr 0 0], .cells [.int .i64 x9]] k =
    v8 aq aK x1 x2 x3 x4 x5 x6 x7 x8 x9 (fun q0 q1 q2 q3 q4 q5 q6 q7=>k (.tuple []) [.cells [.sl .token q0 .no, .int .i64 q1], .cells [.bool q2], .cells [.int .i64 q3, .int .i64 q4, .int .i64 q5, .str q6, .cF, .cF], .cells [.ptr 0 0], .cells [.int .i64 q7]]) (fun q0 q1 q2 q3 q4 q5 q6 q7 q8 q9 MR=>k (.tuple []) [.cells [.sl .token q0 .no, .int .i64 q1], .cells [.bool q2], .cells [.int .i64 q3, .int .i64 q4, .int .i64 q5, .str q6, .sl .str q7 (.own 5), .row 6 q8], .cells [.ptr 0 0], .cells [.int .i64 q9], .tok, .row .json MR]):=by kernel_rfl
theorem Be (R:Type) (ae:ax R):∀a∈aQ (aL Tryz.f88),cO (tt.mode [.json]) (gl R ak (bf ae) aq) (kA R (aK ae)) 5 a:=by
  refine bF 1 (by kernel_rfl) fun i hi => ?_
  match i,hi with
  | 0,_=>exact gb (by kernel_rfl) (Ab ae _ jL)
  | n+1,hi=>omega
theorem BO (R:Type) (ae:ax R) (bR:ay.Spec.Ok Tryz.prog 42 (aA ck cm (bJ ae) bg)) (other:ay.Spec R) (ho:ay.Spec.Ok Tryz.prog 88 other):ay.Spec.Ok Tryz.prog 88 (aA ng nh (uS (bH ae)) other) :=
  bu ho (bj (TT.mode [.json]) mixed (Cb R ae bR) (keep:=false) rfl rfl rfl rfl 5 (Be R ae)) fun (x:bP.av ng) (y:aI.av nh) k=>CN ak (bf ae) aq (aK ae) x.2.1 y.1.1 y.1.2.1 y.2.1.1 y.2.2.1.1 y.2.2.1.2.1 y.2.2.1.2.2.1 y.2.2.1.2.2.2.1 y.2.2.2.2.1.1 k

/-! ### (*humpyard/json.parser).parts -/
abbrev js (R:Type):Type:=Bool→Int→(List Token)→Int→(Json→(List Token)→Int→Option R)→Option R
abbrev mB:List bP := [.leaf (.ptr 0 0), .leaf (.bool), .leaf (.int .i64)]
abbrev mC:List aI := [.cells [.sl .token, .int .i64]]
noncomputable def tN {R:Type} (fn:js R):bP.av mB→aI.av mC→(V→az→Option R)→Option R:=fun x y k=>fn x.2.1 x.2.2.1 y.1.1 y.1.2.1 (fun q0 q1 q2=>k (.agg [.int .i64 q0.kind, .int .i64 q0.num.aB, .int .i64 q0.num.exp, .str q0.text, .sl .str q0.names .no, .sl .json q0.items .no]) [.cells [.sl .token q1 .no, .int .i64 q2]])
noncomputable def mD (R:Type) (bH:jX R):Env R:=fun i=>match i with
  | 88=>some (false,(aA ng nh (uS bH) bg))
  | _=>none
theorem BP (R:Type) (ae:ax R) (bR:ay.Spec.Ok Tryz.prog 42 (aA ck cm (bJ ae) bg)):pK Tryz.prog (mD R (bH ae)):=by
  intro i b sp h
  unfold mD at h
  split at h
  · cases h; exact ⟨(BO R ae bR _ (aO _)),fun _ h=>nomatch h⟩
  · cases h

noncomputable def uT (R:Type):Nat→Option (Hint × cp R):=fun i=>match i with
  | _=>none

noncomputable def uU {R:Type} (bH:jX R) (x1:Bool) (x2:Int) (x3:List Token) (x4:Int) (k0:Json→(List Token)→Int→Option R):Option R :=
  bif x1 then (bH ([125]:aj) x3 x4 x1 7 0 0 ([]:aj) x2 (fun y5 y6 y7 y8 y9 yf wc zO=>k0 (⟨y8,⟨y9,yf⟩,wc,([]:List aj),([]:List Json)⟩:Json) y5 y6) (fun Ek Da F7 GB Kc Hw PQ Nh BW Th Rk=>k0 (⟨GB,⟨Kc,Hw⟩,PQ,Nh,Rk⟩:Json) Ek Da))else (bH ([93]:aj) x3 x4 x1 6 0 0 ([]:aj) x2 (fun y24 IX JA IY IZ NJ Nf PN=>k0 (⟨IY,⟨IZ,NJ⟩,Nf,([]:List aj),([]:List Json)⟩:Json) y24 IX) (fun Ng y33 y34 y35 WR Tl V5 WS WT WU Oz=>k0 (⟨y35,⟨WR,Tl⟩,V5,WS,Oz⟩:Json) Ng y33))
noncomputable def ct {R:Type} (ae:ax R):js R:=fun x1 x2 x3 x4 k0=>uU (bH ae) x1 x2 x3 x4 k0
theorem Cc {R:Type} (bH:jX R) (x1:Bool) (x2:Int) (x3:List Token) (x4:Int) (k:V→az→Option R):iE (tt.mode [.json]) (mD R bH) (uT R) false Tryz.f64 (aL Tryz.f64) [.ptr 0 0, .bool x1, .int .i64 x2] [.cells [.sl .token x3 .no, .int .i64 x4]] k =
    uU bH x1 x2 x3 x4 (fun q0 q1 q2=>k (.agg [.int .i64 q0.kind, .int .i64 q0.num.aB, .int .i64 q0.num.exp, .str q0.text, .sl .str q0.names .no, .sl .json q0.items .no]) [.cells [.sl .token q1 .no, .int .i64 q2]]):=by kernel_rfl
theorem Ac (R:Type) (ae:ax R):∀a∈aQ (aL Tryz.f64),cO (tt.mode [.json]) (mD R (bH ae)) (uT R) 1 a:=by
  refine bF 0 (by kernel_rfl) fun i hi => ?_
  omega
theorem Bf (R:Type) (ae:ax R) (bR:ay.Spec.Ok Tryz.prog 42 (aA ck cm (bJ ae) bg)) (other:ay.Spec R) (ho:ay.Spec.Ok Tryz.prog 64 other):ay.Spec.Ok Tryz.prog 64 (aA mB mC (tN (ct ae)) other) :=
  bu ho (bj (TT.mode [.json]) mixed (BP R ae bR) (keep:=false) rfl rfl rfl rfl 1 (Ac R ae)) fun (x:bP.av mB) (y:aI.av mC) k=>Cc (bH ae) x.2.1 x.2.2.1 y.1.1 y.1.2.1 k

noncomputable def mE (R:Type) (ak:bW R) (ct:js R):Env R:=fun i=>match i with
  | 43=>some (false,(aA gi gk (jV ak) bg))
  | 64=>some (false,(aA mB mC (tN ct) bg))
  | _=>none
theorem BQ (R:Type) (ae:ax R) (bR:ay.Spec.Ok Tryz.prog 42 (aA ck cm (bJ ae) bg)):pK Tryz.prog (mE R ak (ct ae)):=by
  intro i b sp h
  unfold mE at h
  split at h
  · cases h; exact ⟨(ln R _ (aO _)),fun _ h=>nomatch h⟩
  · cases h; exact ⟨(Bf R ae bR _ (aO _)),fun _ h=>nomatch h⟩
  · cases h

noncomputable def uV (R:Type):Nat→Option (Hint × cp R):=fun i=>match i with
  | _=>none

noncomputable def uW {R:Type} (ak:bW R) (ct:js R) (x1:Int) (x2:List Token) (x3:Int) (k0:Json→(List Token)→Int→Option R):Option R :=
  cX (decide ((0:Int)<x2.length)) (let j20:=fun (z4:Bool)=>let j19:=fun (z9:List Token) (PR:Int)=>bif (PR != 0)then (k0 (⟨0,⟨0,0⟩,([]:aj),([]:List aj),([]:List Json)⟩:Json) z9 PR)else (cX (decide ((1:Int)≤z9.length)) (let j18:=bif ((x2.getD 0 (Ty.cn .token)).kind==3)then (k0 (⟨4,⟨(x2.getD 0 (Ty.cn .token)).num.aB,(x2.getD 0 (Ty.cn .token)).num.exp⟩,([]:aj),([]:List aj),([]:List Json)⟩:Json) (z9.drop 1) PR)else (k0 (⟨5,⟨0,0⟩,(x2.getD 0 (Ty.cn .token)).text,([]:List aj),([]:List Json)⟩:Json) (z9.drop 1) PR); let j17:=fun (vD:Bool)=>bif vD then (bif ((x2.getD 0 (Ty.cn .token)).kind==1)then (ct ((x2.getD 0 (Ty.cn .token)).text==([123]:aj)) x1 (z9.drop 1) PR (fun zO Ek Da=>k0 (⟨zO.kind,⟨zO.num.aB,zO.num.exp⟩,zO.text,zO.names,zO.items⟩:Json) Ek Da))else (j18))else (let j16:=fun (z15:Bool)=>bif z15 then (bif ((x2.getD 0 (Ty.cn .token)).kind==4)then (k0 (⟨((nA .str (.int .i64) ((x2.getD 0 (Ty.cn .token)).text) ([(([110,117,108,108]:aj),1),(([102,97,108,115,101]:aj),2),(([116,114,117,101]:aj),3)]:List (aj × Int))):Int),⟨0,0⟩,([]:aj),([]:List aj),([]:List Json)⟩:Json) (z9.drop 1) PR)else (j18))else (j18); bif ((x2.getD 0 (Ty.cn .token)).text==([110,117,108,108]:aj))then (j16 ((x2.getD 0 (Ty.cn .token)).text==([110,117,108,108]:aj)))else (bif ((x2.getD 0 (Ty.cn .token)).text==([102,97,108,115,101]:aj))then (j16 ((x2.getD 0 (Ty.cn .token)).text==([102,97,108,115,101]:aj)))else (j16 ((x2.getD 0 (Ty.cn .token)).text==([116,114,117,101]:aj))))); bif ((x2.getD 0 (Ty.cn .token)).text==([91]:aj))then (j17 ((x2.getD 0 (Ty.cn .token)).text==([91]:aj)))else (j17 ((x2.getD 0 (Ty.cn .token)).text==([123]:aj))))); bif (!z4)then (ak 40 x2 x3 (fun y5 y6=>j19 y5 y6))else (bif (decide (x1>(16:Int)))then (ak 41 x2 x3 (fun y7 y8=>j19 y7 y8))else (j19 x2 x3)); bif ((x2.getD 0 (Ty.cn .token)).kind==2)then (j20 true)else (bif ((x2.getD 0 (Ty.cn .token)).kind==3)then (j20 true)else (bif ((x2.getD 0 (Ty.cn .token)).kind==4)then (j20 true)else (bif ((x2.getD 0 (Ty.cn .token)).kind==1)then (bif ((x2.getD 0 (Ty.cn .token)).text==([91]:aj))then (j20 true)else (j20 ((x2.getD 0 (Ty.cn .token)).text==([123]:aj))))else (j20 false)))))
noncomputable def pr {R:Type} (ae:ax R):ax R:=fun x1 x2 x3 k0=>uW ak (ct ae) x1 x2 x3 k0
theorem Cd {R:Type} (ak:bW R) (ct:js R) (x1:Int) (x2:List Token) (x3:Int) (k:V→az→Option R):iE (tt.mode [.json]) (mE R ak ct) (uV R) false Tryz.f42 (aL Tryz.f42) [.ptr 0 0, .int .i64 x1] [.cells [.sl .token x2 .no, .int .i64 x3]] k =
    uW ak ct x1 x2 x3 (fun q0 q1 q2=>k (.agg [.int .i64 q0.kind, .int .i64 q0.num.aB, .int .i64 q0.num.exp, .str q0.text, .sl .str q0.names .no, .sl .json q0.items .no]) [.cells [.sl .token q1 .no, .int .i64 q2]]):=by kernel_rfl
theorem Ad (R:Type) (ae:ax R):∀a∈aQ (aL Tryz.f42),cO (tt.mode [.json]) (mE R ak (ct ae)) (uV R) 1 a:=by
  refine bF 0 (by kernel_rfl) fun i hi => ?_
  omega
theorem Ae (R:Type) (ae:ax R) (bR:ay.Spec.Ok Tryz.prog 42 (aA ck cm (bJ ae) bg)) (other:ay.Spec R) (ho:ay.Spec.Ok Tryz.prog 42 other):ay.Spec.Ok Tryz.prog 42 (aA ck cm (bJ (pr ae)) other) :=
  bu ho (bj (TT.mode [.json]) mixed (BQ R ae bR) (keep:=false) rfl rfl rfl rfl 1 (Ad R ae)) fun (x:bP.av ck) (y:aI.av cm) k=>Cd ak (ct ae) x.2.1 y.1.1 y.1.2.1 k
noncomputable def bz {R:Type}:Nat→ax R
  | 0,_,_,_,_=>none
  | n+1,l0,l7,nj,k0'=>pr (bz n) l0 l7 nj k0'
theorem Kf {R:Type} (n:Nat):bz (R:=R) (n+1)=pr (bz n):=by kernel_rfl
theorem Bg (R:Type):∀n,ay.Spec.Ok Tryz.prog 42 (aA ck cm (bJ (bz (R:=R) n)) bg) :=
  vR (run:=fun n=>bJ (bz (R:=R) n)) (fun x y k=>by kernel_rfl) fun n hyp=>Ae R (bz n) hyp bg (aO _)
noncomputable def cD {R:Type}:ax R:=fun x1 x2 x3 k0=>bz 40 x1 x2 x3 k0
theorem Bh (R:Type):bJ (R:=R) cD=fun x y k=>bJ (bz 40) x y k:=by kernel_rfl
theorem Bi (R:Type) (other:ay.Spec R) (ho:ay.Spec.Ok Tryz.prog 42 other):ay.Spec.Ok Tryz.prog 42 (aA ck cm (bJ cD) other) :=
  Bz (C6 (run:=fun n=>bJ (bz (R:=R) n)) (fun x y=>40) ho (Bg R)) (Bh R)

end Go.Proofs.YtmlkkgfenfdndaaGreatDoor

/-
  Functions of the program as pure Lean functions, and the ties; printed by wip/tools/emit.py.
-/
set_option maxRecDepth 100000
namespace Go.Proofs.YtmlkkgfenfdndaaGreatDoor
open Go Go.ay

/-! ### humpyard/json.Parse -/
abbrev nN (R:Type):Type:=aj→(Json→Int→Int→Option R)→Option R
abbrev xn:List bP := [.leaf (.str)]
abbrev xo:List aI := []
noncomputable def CO {R:Type} (fn:nN R):bP.av xn→aI.av xo→(V→az→Option R)→Option R:=fun x y k=>fn x.1 (fun q0 q1 q2=>k (.tuple [.agg [.int .i64 q0.kind, .int .i64 q0.num.aB, .int .i64 q0.num.exp, .str q0.text, .sl .str q0.names .no, .sl .json q0.items .no], .int .i64 q1, .int .i64 q2]) [])
noncomputable def Bj (R:Type) (ak:bW R) (cD:ax R) (kf:uP R):Env R:=fun i=>match i with
  | 43=>some (false,(aA gi gk (jV ak) bg))
  | 42=>some (false,(aA ck cm (bJ cD) bg))
  | 25=>some (true,(aA A1 A2 (GG kf) bg))
  | _=>none
theorem MS (R:Type):pK Tryz.prog (Bj R ak cD kf):=by
  intro i b sp h
  unfold Bj at h
  split at h
  · cases h; exact ⟨(ln R _ (aO _)),fun _ h=>nomatch h⟩
  · cases h; exact ⟨(Bi R _ (aO _)),fun _ h=>nomatch h⟩
  · cases h; exact ⟨(KG R _ (aO _)),fun h=>nomatch h⟩
  · cases h

noncomputable def IP (R:Type):Nat→Option (Hint × cp R):=fun i=>match i with
  | _=>none

noncomputable def Bk {R:Type} (ak:bW R) (cD:ax R) (kf:uP R) (x1:aj) (k0:Json→Int→Int→Option R):Option R :=
  kf x1 (fun y2 y3 y4=>bif (y3 != 0)then (k0 (⟨0,⟨0,0⟩,([]:aj),([]:List aj),([]:List Json)⟩:Json) y3 y4)else (cD 1 y2 0 (fun y5 y6 y7=>let j12:=fun (PR:List Token) (vD:Int)=>bif (vD != 0)then (cX (decide ((0:Int)<PR.length)) (k0 (⟨0,⟨0,0⟩,([]:aj),([]:List aj),([]:List Json)⟩:Json) vD ((PR.getD 0 (Ty.cn .token)).at_)))else (k0 (⟨y5.kind,⟨y5.num.aB,y5.num.exp⟩,y5.text,y5.names,y5.items⟩:Json) 0 0); cX (decide ((0:Int)<y6.length)) (bif ((y6.getD 0 (Ty.cn .token)).kind != 5)then (ak 40 y6 y7 (fun y8 y9=>j12 y8 y9))else (j12 y6 y7)))))
noncomputable def eg {R:Type}:nN R:=fun x1 k0=>Bk ak cD kf x1 k0
theorem NT {R:Type} (ak:bW R) (cD:ax R) (kf:uP R) (x1:aj) (k:V→az→Option R):iE tt (Bj R ak cD kf) (IP R) false Tryz.f20 (aL Tryz.f20) [.str x1] [] k =
    Bk ak cD kf x1 (fun q0 q1 q2=>k (.tuple [.agg [.int .i64 q0.kind, .int .i64 q0.num.aB, .int .i64 q0.num.exp, .str q0.text, .sl .str q0.names .no, .sl .json q0.items .no], .int .i64 q1, .int .i64 q2]) []):=by kernel_rfl
theorem JO (R:Type):∀a∈aQ (aL Tryz.f20),cO tt (Bj R ak cD kf) (IP R) 0 a:=by
  refine bF 0 (by kernel_rfl) fun i hi => ?_
  omega
theorem Er (R:Type) (other:ay.Spec R) (ho:ay.Spec.Ok Tryz.prog 20 other):ay.Spec.Ok Tryz.prog 20 (aA xn xo (CO eg) other) :=
  bu ho (bj TT mixed (MS R) (keep:=false) rfl rfl rfl rfl 0 (JO R)) fun (x:bP.av xn) (y:aI.av xo) k=>NT ak cD kf x.1 k

/-! ### slices.Equal[[]string,string] -/
abbrev gN (R:Type):Type:=(List aj)→(List aj)→(Bool→Option R)→Option R
abbrev kR:List bP := [.leaf (.sl .str), .leaf (.sl .str)]
abbrev kS:List aI := []
noncomputable def rG {R:Type} (fn:gN R):bP.av kR→aI.av kS→(V→az→Option R)→Option R:=fun x y k=>fn x.1 x.2.1 (fun q0=>k (.bool q0) [])
abbrev eH (R:Type):Type:=Nat→(List aj)→(List aj)→Int→Int→(Option R)→(Bool→Option R)→Option R
noncomputable def eX (R:Type):Env R:=fun i=>match i with
  | _=>none
theorem zD (R:Type):pK Tryz.prog (eX R):=by
  intro i b sp h
  unfold eX at h
  split at h
  · cases h

noncomputable def iB {R:Type} (fT:(List aj)→(List aj)→Int→Int→Option R) (x3:List aj) (x4:List aj) (x5:Int) (x6:Int) (e0:Option R) (e1:Bool→Option R):Option R :=
  bif (decide (x6<x5))then (cX (decide ((0:Int)≤x6)&&decide (x6<x3.length)) (cX (decide ((0:Int)≤x6)&&decide (x6<x4.length)) (bif (!((x3.getD x6.toNat (Ty.cn .str))==(x4.getD x6.toNat (Ty.cn .str))))then (e1 false)else (fT x3 x4 x5 (IntKind.i64.wrap (x6+1))))))else (e0)
noncomputable def aS {R:Type}:eH R
  | 0,_,_,_,_,_,_=>none
  | n+1,l0,l7,nj,vj,e0,e1=>iB (fun l0 l7 nj vj=>aS n l0 l7 nj vj e0 e1) l0 l7 nj vj e0 e1
noncomputable def iC:Hint := { live := [0,1,12,13],own := [],rows := [],cells := [],drop := [],out := [4] }
abbrev dq:Type:=(List aj) × (List aj) × Int × Int
noncomputable def gS:dq→St:=fun d=>⟨[.sl .str d.1 .no, .sl .str d.2.1 .no, .undef, .undef, .undef, .undef, .undef, .undef, .undef, .undef, .undef, .undef, .int .i64 d.2.2.1, .int .i64 d.2.2.2, .undef, .undef, .undef, .undef, .undef, .undef, .undef, .undef, .undef, .undef, .undef, .undef], []⟩
noncomputable def ly {R:Type} (K:Ex→St→Option R):Option R:=K (.exit 0) ⟨[.undef, .undef, .undef, .undef, .undef, .undef, .undef, .undef, .undef, .undef, .undef, .undef, .undef, .undef, .undef, .undef, .undef, .undef, .undef, .undef, .undef, .undef, .undef, .undef, .undef, .undef], []⟩
noncomputable def lz {R:Type} (K:Ex→St→Option R) (q0:Bool):Option R:=K (.ret) ⟨[.undef, .undef, .undef, .undef, .bool q0, .undef, .undef, .undef, .undef, .undef, .undef, .undef, .undef, .undef, .undef, .undef, .undef, .undef, .undef, .undef, .undef, .undef, .undef, .undef, .undef, .undef], []⟩
noncomputable def lS {R:Type} (K:Ex→St→Option R) (rc:dq→Option R) (d:dq):Option R:=iB (fun z0 z1 z2 z3=>rc (z0,z1,z2,z3)) d.1 d.2.1 d.2.2.1 d.2.2.2 (ly K) (lz K)
noncomputable def eR {R:Type} (K:Ex→St→Option R) (n:Nat) (d:dq):Option R:=aS n d.1 d.2.1 d.2.2.1 d.2.2.2 (ly K) (lz K)
abbrev dt:List bP := [.leaf (.sl .str), .leaf (.sl .str), .leaf (.undef), .leaf (.undef), .leaf (.undef), .leaf (.undef), .leaf (.undef), .leaf (.undef), .leaf (.undef), .leaf (.undef), .leaf (.undef), .leaf (.undef), .leaf (.int .i64), .leaf (.int .i64), .leaf (.undef), .leaf (.undef), .leaf (.undef), .leaf (.undef), .leaf (.undef), .leaf (.undef), .leaf (.undef), .leaf (.undef), .leaf (.undef), .leaf (.undef), .leaf (.undef), .leaf (.undef)]
abbrev du:List aI := []
noncomputable def lT (x:bP.av dt) (y:aI.av du):Nat:=(List.length x.1+List.length x.2.1+Int.natAbs x.2.2.2.2.2.2.2.2.2.2.2.2.1+Int.natAbs x.2.2.2.2.2.2.2.2.2.2.2.2.2.1+64)
noncomputable def lU (x:bP.av dt) (y:aI.av du):dq:=(x.1,x.2.1,x.2.2.2.2.2.2.2.2.2.2.2.2.1,x.2.2.2.2.2.2.2.2.2.2.2.2.2.1)
noncomputable def lA {R:Type} (L:eH R):bP.av dt→aI.av du→(Ex→St→Option R)→Option R:=fun x y K=>L (lT x y) x.1 x.2.1 x.2.2.2.2.2.2.2.2.2.2.2.2.1 x.2.2.2.2.2.2.2.2.2.2.2.2.2.1 (ly K) (lz K)
noncomputable def im (R:Type) (aS:eH R):Nat→Option (Hint × cp R):=fun i=>match i with
  | 4=>some (iC,(gE dt du (lA aS) qB))
  | _=>none

theorem vM {R:Type} (aS:eH R) (K:Ex→St→Option R) (rc:St→Option R) (d:dq):roundOf tt (eX R) (im R aS) 0 ((aQ (aL Tryz.f44)).getD 0 .skip) iC (gS d) rc K=lS K (fun d=>rc (gS d)) d:=by kernel_rfl
theorem uu {R:Type} (K:Ex→St→Option R) (n:Nat) (d:dq):eR K (n+1) d=lS K (eR K n) d:=by kernel_rfl
theorem uv {R:Type} (K:Ex→St→Option R) (d:dq):eR K 0 d=none:=by kernel_rfl
theorem vN (x:bP.av dt) (y:aI.av du):(⟨bP.cT dt x,aI.cT du y⟩:St)=gS (lU x y):=by kernel_rfl
theorem vO {R:Type} (x:bP.av dt) (y:aI.av du) (K:Ex→St→Option R):lA (aS) x y K=eR K (lT x y) (lU x y):=by kernel_rfl
theorem xp {R:Type} (other:cp R) (ho:pG tt (eX R) (im R aS) 0 ((aQ (aL Tryz.f44)).getD 0 .skip) iC other):pG tt (eX R) (im R aS) 0 ((aQ (aL Tryz.f44)).getD 0 .skip) iC (gE dt du (lA (aS)) other) :=
  gW (A:=eR) ho (k9 gS (lS) (eR) (uv) (vM aS) (uu)) lT lU vN (vO)

noncomputable def sf {R:Type} (aS:eH R) (x1:List aj) (x2:List aj) (k0:Bool→Option R):Option R :=
  bif ((x1.length:Int) != (x2.length:Int))then (k0 false)else (aS (List.length x1+List.length x2+Int.natAbs (x1.length:Int)+Int.natAbs 0+64) x1 x2 (x1.length:Int) 0 (k0 true) (fun y7=>k0 y7))
noncomputable def ca {R:Type}:gN R:=fun x1 x2 k0=>sf aS x1 x2 k0
theorem Af {R:Type} (aS:eH R) (x1:List aj) (x2:List aj) (k:V→az→Option R):iE tt (eX R) (im R aS) false Tryz.f44 (aL Tryz.f44) [.sl .str x1 .no, .sl .str x2 .no] [] k =
    sf aS x1 x2 (fun q0=>k (.bool q0) []):=by kernel_rfl
theorem xJ (R:Type):∀a∈aQ (aL Tryz.f44),cO tt (eX R) (im R aS) 0 a:=by
  refine bF 1 (by kernel_rfl) fun i hi => ?_
  match i,hi with
  | 0,_=>exact gb (by kernel_rfl) (xp _ jL)
  | n+1,hi=>omega
theorem yB (R:Type) (other:ay.Spec R) (ho:ay.Spec.Ok Tryz.prog 44 other):ay.Spec.Ok Tryz.prog 44 (aA kR kS (rG ca) other) :=
  bu ho (bj TT mixed (zD R) (keep:=false) rfl rfl rfl rfl 0 (xJ R)) fun (x:bP.av kR) (y:aI.av kS) k=>Af aS x.1 x.2.1 k

/-! ### humpyard/json.Same -/
abbrev cE (R:Type):Type:=Json→Json→(Bool→Option R)→Option R
abbrev lL:List bP := [.agg [.int .i64, .int .i64, .int .i64, .str, .sl .str, .sl .json], .agg [.int .i64, .int .i64, .int .i64, .str, .sl .str, .sl .json]]
abbrev lM:List aI := []
noncomputable def iq {R:Type} (fn:cE R):bP.av lL→aI.av lM→(V→az→Option R)→Option R:=fun x y k=>fn (⟨x.1.1,⟨x.1.2.1,x.1.2.2.1⟩,x.1.2.2.2.1,x.1.2.2.2.2.1,x.1.2.2.2.2.2.1⟩:Json) (⟨x.2.1.1,⟨x.2.1.2.1,x.2.1.2.2.1⟩,x.2.1.2.2.2.1,x.2.1.2.2.2.2.1,x.2.1.2.2.2.2.2.1⟩:Json) (fun q0=>k (.bool q0) [])
/-! ### slices.EqualFunc[[]humpyard/api.Json,[]humpyard/api.Json,humpyard/api.Json,humpyard/api.Json] -/
abbrev dP (R:Type):Type:=(List Json)→(List Json)→(Bool→Option R)→Option R
abbrev fk:List bP := [.leaf (.sl .json), .leaf (.sl .json), .leaf (.fn 21)]
abbrev fm:List aI := []
noncomputable def lN {R:Type} (fn:dP R):bP.av fk→aI.av fm→(V→az→Option R)→Option R:=fun x y k=>fn x.1 x.2.1 (fun q0=>k (.bool q0) [])
abbrev cQ (R:Type):Type:=Nat→(List Json)→(List Json)→Int→Int→(Option R)→(Bool→Option R)→Option R
noncomputable def cP (R:Type) (aF:cE R):Env R:=fun i=>match i with
  | 21=>some (true,(aA lL lM (iq aF) bg))
  | _=>none
theorem qP (R:Type) (aF:cE R) (pw:ay.Spec.Ok Tryz.prog 21 (aA lL lM (iq aF) bg)):pK Tryz.prog (cP R aF):=by
  intro i b sp h
  unfold cP at h
  split at h
  · cases h; exact ⟨pw,fun h=>nomatch h⟩
  · cases h

noncomputable def cV {R:Type} (aF:cE R) (fT:(List Json)→(List Json)→Int→Int→Option R) (x3:List Json) (x4:List Json) (x5:Int) (x6:Int) (e0:Option R) (e1:Bool→Option R):Option R :=
  bif (decide (x6<x5))then (cX (decide ((0:Int)≤x6)&&decide (x6<x4.length)) (cX (decide ((0:Int)≤x6)&&decide (x6<x3.length)) (aF (⟨(x4.getD x6.toNat (Ty.cn .json)).kind,⟨(x4.getD x6.toNat (Ty.cn .json)).num.aB,(x4.getD x6.toNat (Ty.cn .json)).num.exp⟩,(x4.getD x6.toNat (Ty.cn .json)).text,(x4.getD x6.toNat (Ty.cn .json)).names,(x4.getD x6.toNat (Ty.cn .json)).items⟩:Json) (⟨(x3.getD x6.toNat (Ty.cn .json)).kind,⟨(x3.getD x6.toNat (Ty.cn .json)).num.aB,(x3.getD x6.toNat (Ty.cn .json)).num.exp⟩,(x3.getD x6.toNat (Ty.cn .json)).text,(x3.getD x6.toNat (Ty.cn .json)).names,(x3.getD x6.toNat (Ty.cn .json)).items⟩:Json) (fun y7=>bif (!y7)then (e1 false)else (fT x3 x4 x5 (IntKind.i64.wrap (x6+1)))))))else (e0)
noncomputable def aw {R:Type} (aF:cE R):cQ R
  | 0,_,_,_,_,_,_=>none
  | n+1,l0,l7,nj,vj,e0,e1=>cV aF (fun l0 l7 nj vj=>aw aF n l0 l7 nj vj e0 e1) l0 l7 nj vj e0 e1
noncomputable def eI:Hint := { live := [1,2,15,16,17],own := [],rows := [],cells := [],drop := [],out := [6] }
abbrev bT:Type:=(List Json) × (List Json) × Int × Int
noncomputable def ej:bT→St:=fun d=>⟨[.undef, .sl .json d.1 .no, .func 21 [] [], .undef, .undef, .undef, .undef, .undef, .undef, .undef, .undef, .undef, .undef, .undef, .undef, .sl .json d.2.1 .no, .int .i64 d.2.2.1, .int .i64 d.2.2.2, .undef, .undef, .undef, .undef, .undef, .undef, .undef, .undef, .undef, .undef, .undef, .undef, .undef, .undef], []⟩
noncomputable def fY {R:Type} (K:Ex→St→Option R):Option R:=K (.exit 0) ⟨[.undef, .undef, .undef, .undef, .undef, .undef, .undef, .undef, .undef, .undef, .undef, .undef, .undef, .undef, .undef, .undef, .undef, .undef, .undef, .undef, .undef, .undef, .undef, .undef, .undef, .undef, .undef, .undef, .undef, .undef, .undef, .undef], []⟩
noncomputable def fZ {R:Type} (K:Ex→St→Option R) (q0:Bool):Option R:=K (.ret) ⟨[.undef, .undef, .undef, .undef, .undef, .undef, .bool q0, .undef, .undef, .undef, .undef, .undef, .undef, .undef, .undef, .undef, .undef, .undef, .undef, .undef, .undef, .undef, .undef, .undef, .undef, .undef, .undef, .undef, .undef, .undef, .undef, .undef], []⟩
noncomputable def gm {R:Type} (aF:cE R) (K:Ex→St→Option R) (rc:bT→Option R) (d:bT):Option R:=cV aF (fun z0 z1 z2 z3=>rc (z0,z1,z2,z3)) d.1 d.2.1 d.2.2.1 d.2.2.2 (fY K) (fZ K)
noncomputable def cW {R:Type} (aF:cE R) (K:Ex→St→Option R) (n:Nat) (d:bT):Option R:=aw aF n d.1 d.2.1 d.2.2.1 d.2.2.2 (fY K) (fZ K)
abbrev bU:List bP := [.leaf (.undef), .leaf (.sl .json), .leaf (.fn 21), .leaf (.undef), .leaf (.undef), .leaf (.undef), .leaf (.undef), .leaf (.undef), .leaf (.undef), .leaf (.undef), .leaf (.undef), .leaf (.undef), .leaf (.undef), .leaf (.undef), .leaf (.undef), .leaf (.sl .json), .leaf (.int .i64), .leaf (.int .i64), .leaf (.undef), .leaf (.undef), .leaf (.undef), .leaf (.undef), .leaf (.undef), .leaf (.undef), .leaf (.undef), .leaf (.undef), .leaf (.undef), .leaf (.undef), .leaf (.undef), .leaf (.undef), .leaf (.undef), .leaf (.undef)]
abbrev bV:List aI := []
noncomputable def gn (x:bP.av bU) (y:aI.av bV):Nat:=(List.length x.2.1+List.length x.2.2.2.2.2.2.2.2.2.2.2.2.2.2.2.1+Int.natAbs x.2.2.2.2.2.2.2.2.2.2.2.2.2.2.2.2.1+Int.natAbs x.2.2.2.2.2.2.2.2.2.2.2.2.2.2.2.2.2.1+64)
noncomputable def gp (x:bP.av bU) (y:aI.av bV):bT:=(x.2.1,x.2.2.2.2.2.2.2.2.2.2.2.2.2.2.2.1,x.2.2.2.2.2.2.2.2.2.2.2.2.2.2.2.2.1,x.2.2.2.2.2.2.2.2.2.2.2.2.2.2.2.2.2.1)
noncomputable def ga {R:Type} (L:cQ R):bP.av bU→aI.av bV→(Ex→St→Option R)→Option R:=fun x y K=>L (gn x y) x.2.1 x.2.2.2.2.2.2.2.2.2.2.2.2.2.2.2.1 x.2.2.2.2.2.2.2.2.2.2.2.2.2.2.2.2.1 x.2.2.2.2.2.2.2.2.2.2.2.2.2.2.2.2.2.1 (fY K) (fZ K)
noncomputable def dR (R:Type) (aw:cQ R):Nat→Option (Hint × cp R):=fun i=>match i with
  | 4=>some (eI,(gE bU bV (ga aw) qB))
  | _=>none

theorem o0 {R:Type} (aF:cE R) (aw:cQ R) (K:Ex→St→Option R) (rc:St→Option R) (d:bT):roundOf tt (cP R aF) (dR R aw) 0 ((aQ (aL Tryz.f45)).getD 0 .skip) eI (ej d) rc K=gm aF K (fun d=>rc (ej d)) d:=by kernel_rfl
theorem om {R:Type} (aF:cE R) (K:Ex→St→Option R) (n:Nat) (d:bT):cW aF K (n+1) d=gm aF K (cW aF K n) d:=by kernel_rfl
theorem oo {R:Type} (aF:cE R) (K:Ex→St→Option R) (d:bT):cW aF K 0 d=none:=by kernel_rfl
theorem o3 (x:bP.av bU) (y:aI.av bV):(⟨bP.cT bU x,aI.cT bV y⟩:St)=ej (gp x y):=by kernel_rfl
theorem o4 {R:Type} (aF:cE R) (x:bP.av bU) (y:aI.av bV) (K:Ex→St→Option R):ga (aw aF) x y K=cW aF K (gn x y) (gp x y):=by kernel_rfl
theorem pI {R:Type} (aF:cE R) (other:cp R) (ho:pG tt (cP R aF) (dR R (aw aF)) 0 ((aQ (aL Tryz.f45)).getD 0 .skip) eI other):pG tt (cP R aF) (dR R (aw aF)) 0 ((aQ (aL Tryz.f45)).getD 0 .skip) eI (gE bU bV (ga (aw aF)) other) :=
  gW (A:=cW aF) ho (k9 ej (gm aF) (cW aF) (oo aF) (o0 aF (aw aF)) (om aF)) gn gp o3 (o4 aF)

noncomputable def lZ {R:Type} (aw:cQ R) (x1:List Json) (x2:List Json) (k0:Bool→Option R):Option R :=
  bif ((x1.length:Int) != (x2.length:Int))then (k0 false)else (aw (List.length x2+List.length x1+Int.natAbs (x1.length:Int)+Int.natAbs 0+64) x2 x1 (x1.length:Int) 0 (k0 true) (fun y8=>k0 y8))
noncomputable def bh {R:Type} (aF:cE R):dP R:=fun x1 x2 k0=>lZ (aw aF) x1 x2 k0
theorem rH {R:Type} (aF:cE R) (aw:cQ R) (x1:List Json) (x2:List Json) (k:V→az→Option R):iE tt (cP R aF) (dR R aw) false Tryz.f45 (aL Tryz.f45) [.sl .json x1 .no, .sl .json x2 .no, .func 21 [] []] [] k =
    lZ aw x1 x2 (fun q0=>k (.bool q0) []):=by kernel_rfl
theorem qp (R:Type) (aF:cE R):∀a∈aQ (aL Tryz.f45),cO tt (cP R aF) (dR R (aw aF)) 0 a:=by
  refine bF 1 (by kernel_rfl) fun i hi => ?_
  match i,hi with
  | 0,_=>exact gb (by kernel_rfl) (pI aF _ jL)
  | n+1,hi=>omega
theorem qu (R:Type) (aF:cE R) (pw:ay.Spec.Ok Tryz.prog 21 (aA lL lM (iq aF) bg)) (other:ay.Spec R) (ho:ay.Spec.Ok Tryz.prog 45 other):ay.Spec.Ok Tryz.prog 45 (aA fk fm (lN (bh aF)) other) :=
  bu ho (bj TT mixed (qP R aF pw) (keep:=false) rfl rfl rfl rfl 0 (qp R aF)) fun (x:bP.av fk) (y:aI.av fm) k=>rH aF (aw aF) x.1 x.2.1 k

noncomputable def Cv (R:Type) (bh:dP R) (ca:gN R):Env R:=fun i=>match i with
  | 45=>some (true,(aA fk fm (lN bh) bg))
  | 44=>some (true,(aA kR kS (rG ca) bg))
  | _=>none
theorem NU (R:Type) (aF:cE R) (pw:ay.Spec.Ok Tryz.prog 21 (aA lL lM (iq aF) bg)):pK Tryz.prog (Cv R (bh aF) ca):=by
  intro i b sp h
  unfold Cv at h
  split at h
  · cases h; exact ⟨(qu R aF pw _ (aO _)),fun h=>nomatch h⟩
  · cases h; exact ⟨(yB R _ (aO _)),fun h=>nomatch h⟩
  · cases h

noncomputable def Kg (R:Type):Nat→Option (Hint × cp R):=fun i=>match i with
  | _=>none

noncomputable def Cw {R:Type} (bh:dP R) (ca:gN R) (x1:Json) (x2:Json) (k0:Bool→Option R):Option R :=
  bif (x1.kind==x2.kind)then (bif (x1.num.aB==x2.num.aB&&(x1.num.exp==x2.num.exp&&true))then (bif (x1.text==x2.text)then (ca x1.names x2.names (fun y3=>bif y3 then (bh x1.items x2.items (fun y4=>k0 y4))else (k0 false)))else (k0 false))else (k0 false))else (k0 false)
noncomputable def FD {R:Type} (aF:cE R):cE R:=fun x1 x2 k0=>Cw (bh aF) ca x1 x2 k0
theorem P0 {R:Type} (bh:dP R) (ca:gN R) (x1:Json) (x2:Json) (k:V→az→Option R):iE tt (Cv R bh ca) (Kg R) false Tryz.f21 (aL Tryz.f21) [.agg [.int .i64 x1.kind, .int .i64 x1.num.aB, .int .i64 x1.num.exp, .str x1.text, .sl .str x1.names .no, .sl .json x1.items .no], .agg [.int .i64 x2.kind, .int .i64 x2.num.aB, .int .i64 x2.num.exp, .str x2.text, .sl .str x2.names .no, .sl .json x2.items .no]] [] k =
    Cw bh ca x1 x2 (fun q0=>k (.bool q0) []):=by kernel_rfl
theorem KJ (R:Type) (aF:cE R):∀a∈aQ (aL Tryz.f21),cO tt (Cv R (bh aF) ca) (Kg R) 0 a:=by
  refine bF 0 (by kernel_rfl) fun i hi => ?_
  omega
theorem KK (R:Type) (aF:cE R) (pw:ay.Spec.Ok Tryz.prog 21 (aA lL lM (iq aF) bg)) (other:ay.Spec R) (ho:ay.Spec.Ok Tryz.prog 21 other):ay.Spec.Ok Tryz.prog 21 (aA lL lM (iq (FD aF)) other) :=
  bu ho (bj TT mixed (NU R aF pw) (keep:=false) rfl rfl rfl rfl 0 (KJ R aF)) fun (x:bP.av lL) (y:aI.av lM) k=>P0 (bh aF) ca (⟨x.1.1,⟨x.1.2.1,x.1.2.2.1⟩,x.1.2.2.2.1,x.1.2.2.2.2.1,x.1.2.2.2.2.2.1⟩:Json) (⟨x.2.1.1,⟨x.2.1.2.1,x.2.1.2.2.1⟩,x.2.1.2.2.2.1,x.2.1.2.2.2.2.1,x.2.1.2.2.2.2.2.1⟩:Json) k
noncomputable def kB {R:Type}:Nat→cE R
  | 0,_,_,_=>none
  | n+1,l0,l7,k0'=>FD (kB n) l0 l7 k0'
theorem Wu {R:Type} (n:Nat):kB (R:=R) (n+1)=FD (kB n):=by kernel_rfl
theorem MT (R:Type):∀n,ay.Spec.Ok Tryz.prog 21 (aA lL lM (iq (kB (R:=R) n)) bg) :=
  vR (run:=fun n=>iq (kB (R:=R) n)) (fun x y k=>by kernel_rfl) fun n hyp=>KK R (kB n) hyp bg (aO _)
noncomputable def eS {R:Type}:cE R:=fun x1 x2 k0=>kB (Json.depth x1+2) x1 x2 k0
theorem MU (R:Type):iq (R:=R) eS=fun x y k=>iq (kB (Json.depth (⟨x.1.1,⟨x.1.2.1,x.1.2.2.1⟩,x.1.2.2.2.1,x.1.2.2.2.2.1,x.1.2.2.2.2.2.1⟩:Json)+2)) x y k:=by kernel_rfl
theorem FE (R:Type) (other:ay.Spec R) (ho:ay.Spec.Ok Tryz.prog 21 other):ay.Spec.Ok Tryz.prog 21 (aA lL lM (iq eS) other) :=
  Bz (C6 (run:=fun n=>iq (kB (R:=R) n)) (fun x y=>(Json.depth (⟨x.1.1,⟨x.1.2.1,x.1.2.2.1⟩,x.1.2.2.2.1,x.1.2.2.2.2.1,x.1.2.2.2.2.2.1⟩:Json)+2)) ho (MT R)) (MU R)

/-! ### humpyard/humpyardlaw04.awake -/
abbrev sY (R:Type):Type:=(Bool→Option R)→Option R
abbrev yX:List bP := []
abbrev yY:List aI := []
noncomputable def FF {R:Type} (fn:sY R):bP.av yX→aI.av yY→(V→az→Option R)→Option R:=fun x y k=>fn (fun q0=>k (.bool q0) [])
noncomputable def yZ (R:Type) (eg:nN R) (ew:nM R) (cG:jM R) (eS:cE R):Env R:=fun i=>match i with
  | 20=>some (true,(aA xn xo (CO eg) bg))
  | 17=>some (true,(aA w6 w7 (CH ew) bg))
  | 32=>some (true,(aA tm tp (yQ cG) bg))
  | 21=>some (true,(aA lL lM (iq eS) bg))
  | _=>none
theorem KL (R:Type):pK Tryz.prog (yZ R eg ew cG eS):=by
  intro i b sp h
  unfold yZ at h
  split at h
  · cases h; exact ⟨(Er R _ (aO _)),fun h=>nomatch h⟩
  · cases h; exact ⟨(Em R _ (aO _)),fun h=>nomatch h⟩
  · cases h; exact ⟨(zP R _ (aO _)),fun h=>nomatch h⟩
  · cases h; exact ⟨(FE R _ (aO _)),fun h=>nomatch h⟩
  · cases h

noncomputable def GK (R:Type):Nat→Option (Hint × cp R):=fun i=>match i with
  | _=>none

noncomputable def GL {R:Type} (eg:nN R) (ew:nM R) (cG:jM R) (eS:cE R) (k0:Bool→Option R):Option R :=
  eg ([32,123,34,97,34,32,58,32,91,49,46,53,48,44,32,110,117,108,108,93,125,32]:aj) (fun y1 y2 y3=>eg ([123,34,97,34,58,49,44,34,97,34]:aj) (fun y4 y5 y6=>bif (y2==0)then (bif (y3==0)then (ew (⟨y1.kind,⟨y1.num.aB,y1.num.exp⟩,y1.text,y1.names,y1.items⟩:Json) (fun y7=>bif (y7==([123,34,97,34,58,91,49,46,53,44,110,117,108,108,93,125]:aj))then (bif (y5==42)then (bif (y6==7)then (cG (⟨y1.kind,⟨y1.num.aB,y1.num.exp⟩,y1.text,y1.names,y1.items⟩:Json) (fun y8=>bif y8 then (eS (⟨y1.kind,⟨y1.num.aB,y1.num.exp⟩,y1.text,y1.names,y1.items⟩:Json) (⟨y1.kind,⟨y1.num.aB,y1.num.exp⟩,y1.text,y1.names,y1.items⟩:Json) (fun y9=>bif y9 then (eS (⟨y1.kind,⟨y1.num.aB,y1.num.exp⟩,y1.text,y1.names,y1.items⟩:Json) (⟨0,⟨0,0⟩,([]:aj),([]:List aj),([]:List Json)⟩:Json) (fun yf=>k0 (!yf)))else (k0 false)))else (k0 false)))else (k0 false))else (k0 false))else (k0 false)))else (k0 false))else (k0 false)))
noncomputable def jI {R:Type}:sY R:=fun  k0=>GL eg ew cG eS  k0
theorem MV {R:Type} (eg:nN R) (ew:nM R) (cG:jM R) (eS:cE R) (k:V→az→Option R):iE tt (yZ R eg ew cG eS) (GK R) false Tryz.f30 (aL Tryz.f30) [] [] k =
    GL eg ew cG eS  (fun q0=>k (.bool q0) []):=by kernel_rfl
theorem IQ (R:Type):∀a∈aQ (aL Tryz.f30),cO tt (yZ R eg ew cG eS) (GK R) 0 a:=by
  refine bF 0 (by kernel_rfl) fun i hi => ?_
  omega
theorem JP (R:Type) (other:ay.Spec R) (ho:ay.Spec.Ok Tryz.prog 30 other):ay.Spec.Ok Tryz.prog 30 (aA yX yY (FF jI) other) :=
  bu ho (bj TT mixed (KL R) (keep:=false) rfl rfl rfl rfl 0 (IQ R)) fun (x:bP.av yX) (y:aI.av yY) k=>MV eg ew cG eS  k

end Go.Proofs.YtmlkkgfenfdndaaGreatDoor

set_option maxRecDepth 100000
namespace Go.Proofs.YtmlkkgfenfdndaaGreatDoor
open Go Go.ay Go.Lib

abbrev RZ:=Int × List Token
def mg (x:aj):List Token→Option (List Token)
  | t::r=>if t.kind=1∧t.text=x then some r else none
  | []=>none
def GM (ns:List aj):List Token→Except RZ (aj × List Token)
  | t::r =>
    if t.kind≠2 then .error (40,t::r)else if ns.contains t.text then .error (42,t::r)else
      match mg [58] r with
      | some r' => .ok (t.text,r')
      | none => .error (40,r)
  | [] => .error (0, [])
def Ar (f:List Token→Except RZ (Json × List Token)) (obj:Bool) (ns:List aj) (is:List Json) (ts:List Token):Except RZ ((List aj × List Json) × List Token) :=
  match obj with
  | true =>
    (match GM ns ts with
     | .error b => .error b
     | .ok (nm,ts1)=>(match f ts1 with | .error b => .error b | .ok (v,KM) => .ok ((ns ++ [nm],is ++ [v]),KM)))
  | false=>(match f ts with | .error b => .error b | .ok (v,KM) => .ok ((ns,is ++ [v]),KM))
def zE (f:List Token→Except RZ (Json × List Token)) (cl:aj) (obj:Bool):Nat→List aj→List Json→List Token→Except RZ ((List aj × List Json) × List Token)
  | 0,_,_,ts => .error (0,ts)
  | m+1,ns,is,ts =>
    match Ar f obj ns is ts with
    | .error b => .error b
    | .ok (p,KM) =>
      match mg cl KM with
      | some r => .ok (p,r)
      | none =>
        match mg [44] KM with
        | some r=>zE f cl obj m p.1 p.2 r
        | none => .error (40,KM)
def CP (t:aj):Bool:=t==oZ||(t==ll||t==sc)
def P1:List (aj × Int) := [(oZ,1),(ll,2),(sc,3)]
def BR (t:aj):Bool:=t == [91]||t == [123]
def sZ (t:Token):Bool:=t.kind==2||(t.kind==3||(t.kind==4||(t.kind==1&&BR t.text)))
def xK:Nat→Int→List Token→Except RZ (Json × List Token)
  | 0,_,ts => .error (0,ts)
  | _+1,_, [] => .error (0, [])
  | n+1,d,t::r =>
    if sZ t=false then .error (40,t::r)else
    if d>16 then .error (41,t::r)else
    if t.kind=1∧BR t.text=true then
      let obj:=t.text == [123]
      let k:Int:=if obj then 7 else 6
      let cl:aj:=if obj then [125]else [93]
      match mg cl r with
      | some r' => .ok (⟨k,⟨0,0⟩, [], [], []⟩,r')
      | none =>
        match zE (xK n (d+1)) cl obj (r.length+1) [] [] r with
        | .error b => .error b
        | .ok (p,r') => .ok (⟨k,⟨0,0⟩, [],p.1,p.2⟩,r')
    else if t.kind=4∧CP t.text=true then .ok (⟨nA .str (.int .i64) t.text P1,⟨0,0⟩, [], [], []⟩,r)
    else if t.kind=3 then .ok (⟨4,t.num, [], [], []⟩,r)
    else .ok (⟨5,⟨0,0⟩,t.text, [], []⟩,r)

theorem Bq {x:aj} {ts r:List Token} (h:mg x ts=some r):r.length<ts.length:=by
  cases ts with
  | nil=>cases h
  | cons t ts =>
    simp only[mg]at h
    split at h
    · cases h; simp
    · cases h
theorem OM {ns:List aj} {ts:List Token} {p:aj × List Token} (h:GM ns ts = .ok p):p.2.length<ts.length:=by
  cases ts with
  | nil=>cases h
  | cons t ts =>
    simp only[GM]at h
    split at h
    · cases h
    · split at h
      · cases h
      · split at h
        · rename_i r hr
          have:=Bq hr
          cases h
          simp; omega
        · cases h
theorem JQ {f:List Token→Except RZ (Json × List Token)} (hf:∀ts p,f ts = .ok p→p.2.length<ts.length) {obj:Bool} {ns:List aj} {is:List Json} {ts:List Token} {p:(List aj × List Json) × List Token} (h:Ar f obj ns is ts = .ok p) :
    p.2.length<ts.length:=by
  cases obj with
  | true =>
    simp only[Ar]at h
    split at h
    · cases h
    · rename_i nm ts1 hn
      have h1:=OM hn
      split at h
      · cases h
      · rename_i v KM hv
        have h2:=hf _ _ hv
        cases h
        simp only at h1 h2 ⊢
        omega
  | false =>
    simp only[Ar]at h
    split at h
    · cases h
    · rename_i v KM hv
      have h2:=hf _ _ hv
      cases h
      exact h2
theorem ON {f:List Token→Except RZ (Json × List Token)} (hf:∀ts p,f ts = .ok p→p.2.length<ts.length) {cl:aj} {obj:Bool}:∀(m:Nat) (ns:List aj) (is:List Json) (ts:List Token) (p:(List aj × List Json) × List Token),
    zE f cl obj m ns is ts = .ok p→p.2.length<ts.length
  | 0,_,_,_,_,h=>by cases h
  | m+1,ns,is,ts,p,h=>by
    simp only[zE]at h
    split at h
    · cases h
    · rename_i q KM hq
      have h1:=JQ hf hq
      split at h
      · rename_i r hr
        have h2:=Bq hr
        cases h
        simp only at h1 h2 ⊢
        omega
      · split at h
        · rename_i r hr
          have h2:=Bq hr
          have h3:=ON hf m _ _ _ _ h
          simp only at h1 h2 h3 ⊢
          omega
        · cases h
theorem RP:∀(n:Nat) (d:Int) (ts:List Token) (p:Json × List Token),xK n d ts = .ok p→p.2.length<ts.length
  | 0,_,_,_,h=>by cases h
  | _+1,_, [],_,h=>by cases h
  | n+1,d,t::r,p,h=>by
    simp only[xK]at h
    split at h
    · cases h
    split at h
    · cases h
    split at h
    · split at h
      · rename_i r' hr
        have:=Bq hr
        cases h
        simp; omega
      · split at h
        · cases h
        · rename_i q r' hq
          have:=ON (fun ts p=>RP n (d+1) ts p) _ _ _ _ _ hq
          cases h
          simp only[List.length_cons]at this ⊢
          omega
    split at h
    · cases h; simp
    split at h
    · cases h; simp
    · cases h; simp

theorem MW {f:List Token→Except RZ (Json × List Token)} (hf:∀ts p,f ts = .ok p→p.2.length<ts.length) {cl:aj} {obj:Bool}:∀(m m':Nat) (ns:List aj) (is:List Json) (ts:List Token),ts.length<m→ts.length<m' →
    zE f cl obj m ns is ts=zE f cl obj m' ns is ts
  | 0,_,_,_,_,h,_=>by omega
  | _+1,0,_,_,_,_,h=>by omega
  | m+1,m'+1,ns,is,ts,h,h'=>by
    simp only[zE]
    cases hq:Ar f obj ns is ts with
    | error b=>rfl
    | ok q =>
      obtain ⟨p,KM⟩:=q
      have h1:=JQ hf hq
      simp only
      cases mg cl KM with
      | some r=>rfl
      | none =>
        simp only
        cases hr:mg [44] KM with
        | none=>rfl
        | some r =>
          have h2:=Bq hr
          simp only at h1 h2 ⊢
          exact MW hf m m' _ _ _ (by omega) (by omega)

def Wv {α:Type} (P:α→Prop) (Q:RZ→Prop):Except RZ α→Prop
  | .ok p=>P p
  | .error b=>Q b

def Ag (ts:List Token):Prop:=∃e,ts.getLast? = some e∧e.kind=5
theorem Ag.ne {ts:List Token} (h:Ag ts):ts ≠ []:=by
  rintro rfl
  obtain ⟨e,h,_⟩:=h
  cases h
theorem Ag.tail {t:Token} {r:List Token} (h:Ag (t::r)) (ht:t.kind≠5):Ag r:=by
  obtain ⟨e,h1,h2⟩:=h
  cases r with
  | nil =>
    simp at h1
    subst h1
    exact (ht h2).elim
  | cons u r=>exact ⟨e,by simpa [List.getLast?_cons_cons]using h1,h2⟩

theorem Dr {x:aj} {ts r:List Token} (he:Ag ts) (h:mg x ts=some r):Ag r:=by
  cases ts with
  | nil=>cases h
  | cons t ts =>
    simp only[mg]at h
    split at h
    · rename_i hc
      cases h
      exact he.tail (by rw[hc.1]; decide)
    · cases h
theorem Ww {ns:List aj} {ts:List Token} (he:Ag ts):Wv (fun p:aj × List Token=>Ag p.2) (fun b=>Ag b.2∧b.1≠0) (GM ns ts):=by
  cases ts with
  | nil=>exact (he.ne rfl).elim
  | cons t ts =>
    simp only[GM]
    by_cases hk:t.kind=2
    · rw[if_neg (by simp[hk])]
      have h1:=he.tail (by rw[hk]; decide)
      by_cases hc:ns.contains t.text=true
      · rw[if_pos hc]
        exact ⟨he,by show (_:Int)≠0; simp⟩
      · rw[if_neg hc]
        cases hr:mg [58] ts with
        | some r=>exact Dr h1 hr
        | none=>exact ⟨h1,by show (_:Int)≠0; simp⟩
    · rw[if_pos hk]
      exact ⟨he,by show (_:Int)≠0; simp⟩

theorem za {t:Token} {r:List Token}:decide ((0:Int)<((t::r).length:Int))=true:=by rw[decide_eq_true_eq,List.length_cons]; omega
theorem K7 {t:Token} {r:List Token}:decide ((1:Int)≤((t::r).length:Int))=true:=by rw[decide_eq_true_eq,List.length_cons]; omega

theorem FG {R:Type} (x:aj) {ts:List Token} (hn:ts ≠ []) (k:Bool→List Token→Int→Option R):aq x ts 0 k=match mg x ts with|some r=>k true r 0|none=>k false ts 0:=by
  cases ts with
  | nil=>exact (hn rfl).elim
  | cons t r =>
    have e0:aq x (t::r) 0 k=cX (decide ((0:Int)<((t::r).length:Int))) (bif (t.kind != 1)then (k false (t::r) 0)else (bif (!(t.text==x))then (k false (t::r) 0)else (cX (decide ((1:Int)≤((t::r).length:Int))) (k true r 0)))):=rfl
    rw[e0,aT za]
    simp only[mg]
    by_cases h1:t.kind=1
    · by_cases h2:t.text=x
      · rw[if_pos ⟨h1,h2⟩]
        have e1:(t.kind != 1)=false:=by simp[h1]
        have e2:(!(t.text==x))=false:=by simp[h2]
        rw[e1,e2,aT K7]
        rfl
      · rw[if_neg (fun h=>h2 h.2)]
        have e1:(t.kind != 1)=false:=by simp[h1]
        have e2:(!(t.text==x))=true:=by simp[h2]
        rw[e1,e2]
        rfl
    · rw[if_neg (fun h=>h1 h.1)]
      have e1:(t.kind != 1)=true:=by simp[h1]
      rw[e1]
      rfl

theorem TC {R:Type} (ns:List aj) (x:aj) (hl:ns.length≤1099511627776) (k:Bool→Option R):∀(F i:Nat),i≤ns.length→ns.length - i<F →
    aX F ns x (ns.length:Int) (i:Int) (k (decide ((-1:Int)≥0))) (fun y=>k (decide (y≥0)))=k ((ns.drop i).contains x):=by
  intro F
  induction F with
  | zero=>intro i _ h; omega
  | succ F ih =>
    intro i hi hF
    show iz (fun x0 x1 x2 x3=>aX F x0 x1 x2 x3 _ _) ns x (ns.length:Int) (i:Int) _ _=_
    unfold iz
    by_cases h:i<ns.length
    · have h1:decide ((i:Int)<(ns.length:Int))=true:=by simp; omega
      have h2:(decide ((0:Int)≤(i:Int))&&true)=true:=by simp
      have hw:IntKind.i64.wrap ((i:Int)+1)=((i+1:Nat):Int):=by rw[dD (by omega) (by omega)]; omega
      have hg:ns.getD (i:Int).toNat (Ty.cn .str)=ns[i]:=getD_at h _
      have hj:(decide ((i:Int)≥0))=true:=by simp
      rw[h1,cond_true,aT h2,hg,List.drop_eq_getElem_cons h,List.contains_cons]
      cases hq:x==ns[i]with
      | true =>
        rw[cond_true,Bool.true_or]
        show k (decide ((i:Int)≥0))=k true
        rw[hj]
      | false =>
        rw[cond_false,Bool.false_or,hw]
        exact ih (i+1) (by omega) (by omega)
    · have h1:decide ((i:Int)<(ns.length:Int))=false:=by simp; omega
      rw[h1,cond_false,List.drop_eq_nil_of_le (by omega)]
      rfl
theorem Ec {R:Type} (ns:List aj) (x:aj) (hl:ns.length≤1099511627776) (k:Bool→Option R):bO ns x k=k (ns.contains x):=by
  have:=TC ns x hl k (List.length ns+List.length x+Int.natAbs (ns.length:Int)+Int.natAbs 0+64) 0 (by omega) (by omega)
  rw[List.drop_zero]at this
  exact this

theorem name_ok {R:Type} (ns:List aj) (hl:ns.length≤1099511627776) {ts:List Token} (he:Ag ts):Wv (fun p:aj × List Token=>∀k:aj→List Token→Int→Option R,cz ns ts 0 k=k p.1 p.2 0)
    (fun b=>∃nm,∀k:aj→List Token→Int→Option R,cz ns ts 0 k=k nm b.2 b.1) (GM ns ts):=by
  cases ts with
  | nil=>exact (he.ne rfl).elim
  | cons t r =>
    have e0:∀k:aj→List Token→Int→Option R,cz ns (t::r) 0 k=cX (decide ((0:Int)<((t::r).length:Int))) (bif (t.kind != 2)then (k t.text (t::r) 40)else (bO ns t.text (fun y6=>bif y6 then (k t.text (t::r) 42)else (cX (decide ((1:Int)≤((t::r).length:Int))) (aq [58] r 0 (fun y9 yf wc=>bif (!y9)then (ak 40 yf wc (fun zO Ek=>k t.text zO Ek))else (k t.text yf wc))))))):=fun k=>rfl
    simp only[GM]
    by_cases hk:t.kind=2
    · have e1:(t.kind != 2)=false:=by simp[hk]
      have hr:=he.tail (by rw[hk]; decide)
      rw[if_neg (by simp[hk])]
      cases hc:ns.contains t.text with
      | true =>
        rw[if_pos rfl]
        refine ⟨t.text,fun k => ?_⟩
        rw[e0,aT za,e1,cond_false,Ec ns _ hl,hc]
        rfl
      | false =>
        rw[if_neg (by simp)]
        have hs:=fun k:Bool→List Token→Int→Option R=>FG [58] hr.ne k
        cases hq:mg [58] r with
        | some r' =>
          rw[hq]at hs
          intro k
          rw[e0,aT za,e1,cond_false,Ec ns _ hl,hc,cond_false,aT K7]
          exact hs _
        | none =>
          rw[hq]at hs
          refine ⟨t.text,fun k => ?_⟩
          rw[e0,aT za,e1,cond_false,Ec ns _ hl,hc,cond_false,aT K7]
          exact hs _
    · have e1:(t.kind != 2)=true:=by simp[hk]
      rw[if_pos hk]
      refine ⟨t.text,fun k => ?_⟩
      rw[e0,aT za,e1]
      rfl

def Hval {R:Type} (jn:ax R) (f:List Token→Except RZ (Json × List Token)) (d:Int) (B:Nat):Prop :=
  ∀ts,Ag ts→ts.length≤B→Wv (fun p:Json × List Token=>Ag p.2∧∀k:Json→List Token→Int→Option R,jn d ts 0 k=k p.1 p.2 0)
    (fun b=>(Ag b.2∧b.1≠0)∧∃v,∀k:Json→List Token→Int→Option R,jn d ts 0 k=k v b.2 b.1) (f ts)

theorem K8 {α:Type} (l:List α) (a b:α):(l ++ [a]).set ((l.length:Int)).toNat b=l ++ [b]:=by
  rw[Int.toNat_natCast,List.set_append_right _ _ (Nat.le_refl _),Nat.sub_self]
  rfl

abbrev ZG (R:Type):=Bool→Int→Int→Int→aj→List aj→Nat→Int→List Json→List Token→Int→Option R
theorem ZH {R:Type} (jn:ax R) (f:List Token→Except RZ (Json × List Token)) (d:Int) (hd:0≤d∧d≤16) (B:Nat) (hv:Hval jn f (d+1) B) (obj:Bool) (kd a b:Int) (tx:aj) (ns:List aj) (is:List Json) (ts:List Token)
    (he:Ag ts) (hB:ts.length≤B) (Hv:ns.length≤1000000000) (Ke:is.length≤1000000000) :
    Wv (fun p:(List aj × List Json) × List Token=>Ag p.2∧∀G:ZG R,bf jn obj kd a b tx ns is.length d is ts 0 (fun a1 a2 a3 a4 a5 a6 a7 a8 t e i=>G a1 a2 a3 a4 a5 a6 a7 a8 i t e) G (fun a1 a2 a3 a4 a5 a6 a7 a8 t e i=>G a1 a2 a3 a4 a5 a6 a7 a8 i t e) G=G obj kd a b tx p.1.1 p.1.2.length d p.1.2 p.2 0)
      (fun q=>(Ag q.2∧q.1≠0)∧∃K9 n' La,∀G:ZG R,bf jn obj kd a b tx ns is.length d is ts 0 (fun a1 a2 a3 a4 a5 a6 a7 a8 t e i=>G a1 a2 a3 a4 a5 a6 a7 a8 i t e) G (fun a1 a2 a3 a4 a5 a6 a7 a8 t e i=>G a1 a2 a3 a4 a5 a6 a7 a8 i t e) G=G obj kd a b tx K9 n' d La q.2 q.1)
      (Ar f obj ns is ts):=by
  have e0:∀k0 k1 k2 k3,bf jn obj kd a b tx ns is.length d is ts 0 k0 k1 k2 k3=ez cz jn obj kd a b tx ns is.length d is ts 0 k0 k1 k2 k3:=fun _ _ _ _=>rfl
  have c1:decide ((ns.length+1)*16≤140737488355328)=true:=by rw[decide_eq_true_eq]; omega
  have c2:decide ((is.length+1)*88≤140737488355328)=true:=by rw[decide_eq_true_eq]; omega
  have hw:IntKind.i64.wrap (d+1)=d+1:=dD (by omega) (by omega)
  have j7:∀c:Int,c≠0→(c==0)=false:=fun c hc=>by simpa using hc
  cases obj with
  | true =>
    have hn:=name_ok (R:=R) ns (by omega) he
    have hnE:=Ww (ns:=ns) he
    have hnL:=fun p=>OM (ns:=ns) (ts:=ts) (p:=p)
    simp only[Ar]
    cases hq:GM ns ts with
    | error q =>
      rw[hq]at hn hnE
      obtain ⟨nm,hn⟩:=hn
      refine ⟨hnE,ns ++ [nm],is.length,is,fun G => ?_⟩
      rw[e0]
      unfold ez
      rw[cond_true,hn,aT c1,j7 _ hnE.2]
      rfl
    | ok q =>
      obtain ⟨nm,ts1⟩:=q
      rw[hq]at hn hnE hnL
      have hl1:=hnL _ rfl
      have h2:=hv ts1 hnE (by simp only at hl1; omega)
      simp only
      cases hf:f ts1 with
      | error q =>
        rw[hf]at h2
        obtain ⟨h2,v,h3⟩:=h2
        refine ⟨h2,ns ++ [nm],is.length+1,is ++ [v],fun G => ?_⟩
        rw[e0]
        unfold ez
        rw[cond_true,hn,aT c1]
        show (jn (IntKind.i64.wrap (d+1)) ts1 0 _)=_
        rw[hw,h3,aT c2,aT (by simp; omega),aT (by simp),K8,Json.eta]
      | ok q =>
        obtain ⟨v,KM⟩:=q
        rw[hf]at h2
        obtain ⟨h2,h3⟩:=h2
        refine ⟨h2,fun G => ?_⟩
        rw[e0]
        unfold ez
        rw[cond_true,hn,aT c1]
        show (jn (IntKind.i64.wrap (d+1)) ts1 0 _)=_
        rw[hw,h3,aT c2,aT (by simp; omega),aT (by simp),K8,Json.eta]
        simp only[List.length_append,List.length_cons,List.length_nil]
  | false =>
    have h2:=hv ts he hB
    simp only[Ar]
    cases hf:f ts with
    | error q =>
      rw[hf]at h2
      obtain ⟨h2,v,h3⟩:=h2
      refine ⟨h2,ns,is.length+1,is ++ [v],fun G => ?_⟩
      rw[e0]
      unfold ez
      show (jn (IntKind.i64.wrap (d+1)) ts 0 _)=_
      rw[hw,h3,aT c2,aT (by simp; omega),aT (by simp),K8,Json.eta]
    | ok q =>
      obtain ⟨v,KM⟩:=q
      rw[hf]at h2
      obtain ⟨h2,h3⟩:=h2
      refine ⟨h2,fun G => ?_⟩
      rw[e0]
      unfold ez
      show (jn (IntKind.i64.wrap (d+1)) ts 0 _)=_
      rw[hw,h3,aT c2,aT (by simp; omega),aT (by simp),K8,Json.eta]
      simp only[List.length_append,List.length_cons,List.length_nil]

theorem Wx {f:List Token→Except RZ (Json × List Token)} {obj:Bool} {ns:List aj} {is:List Json} {ts:List Token} {p:(List aj × List Json) × List Token} (h:Ar f obj ns is ts = .ok p) :
    p.1.1.length≤ns.length+1∧p.1.2.length=is.length+1:=by
  cases obj with
  | true =>
    simp only[Ar]at h
    split at h
    · cases h
    · split at h
      · cases h
      · cases h; simp
  | false =>
    simp only[Ar]at h
    split at h
    · cases h
    · cases h; simp

theorem loop_ok {R:Type} (jn:ax R) (f:List Token→Except RZ (Json × List Token)) (hfl:∀ts p,f ts = .ok p→p.2.length<ts.length) (d:Int) (hd:0≤d∧d≤16) (B:Nat) (hBB:B≤100000000) (hv:Hval jn f (d+1) B) (obj:Bool) (kd a b:Int) (tx cl:aj) :
    ∀(F:Nat) (ns:List aj) (is:List Json) (ts:List Token),ts.length<F→Ag ts→ts.length≤B→ns.length+ts.length≤1000000000→is.length+ts.length≤1000000000 →
    Wv (fun p:(List aj × List Json) × List Token=>Ag p.2∧∀e0,aK jn F cl ts 0 obj kd a b tx ns is.length d is e0=e0 p.2 0 obj kd a b tx p.1.1 p.1.2.length d p.1.2)
      (fun q=>(Ag q.2∧q.1≠0)∧∃K9 n' La,∀e0,aK jn F cl ts 0 obj kd a b tx ns is.length d is e0=e0 q.2 q.1 obj kd a b tx K9 n' d La)
      (zE f cl obj F ns is ts):=by
  intro F
  induction F with
  | zero=>intro ns is ts h; omega
  | succ F ih =>
    intro ns is ts hF he hB Hv Ke
    have e1:∀e0,aK jn (F+1) cl ts 0 obj kd a b tx ns is.length d is e0=nF ak (bf jn) aq (fun l0 l7 nj vj D1 D2 KA KB KC KD zT FC=>aK jn F l0 l7 nj vj D1 D2 KA KB KC KD zT FC e0) cl ts 0 obj kd a b tx ns is.length d is e0:=fun e0=>rfl
    let G:(List Token→Int→Bool→Int→Int→Int→aj→List aj→Nat→Int→List Json→Option R)→ZG R:=fun e0 WR Tl V5 WS WT WU Oz Ro Rp WV V6 =>
      bif (V6 != 0)then (e0 WV V6 WR Tl V5 WS WT WU Oz Ro Rp)else (aq cl WV V6 (fun y80 y81 y82=>bif y80 then (e0 y81 y82 WR Tl V5 WS WT WU Oz Ro Rp)else (aq [44] y81 y82 (fun y86 y87 y88=>bif (!y86)then (ak 40 y87 y88 (fun y89 y90=>e0 y89 y90 WR Tl V5 WS WT WU Oz Ro Rp))else (aK jn F cl y87 y88 WR Tl V5 WS WT WU Oz Ro Rp e0)))))
    have e2:∀e0,aK jn (F+1) cl ts 0 obj kd a b tx ns is.length d is e0=bf jn obj kd a b tx ns is.length d is ts 0 (fun a1 a2 a3 a4 a5 a6 a7 a8 t e i=>G e0 a1 a2 a3 a4 a5 a6 a7 a8 i t e) (G e0) (fun a1 a2 a3 a4 a5 a6 a7 a8 t e i=>G e0 a1 a2 a3 a4 a5 a6 a7 a8 i t e) (G e0):=fun e0=>rfl
    have hp:=ZH jn f d hd B hv obj kd a b tx ns is ts he hB (by omega) (by omega)
    simp only[zE]
    cases hq:Ar f obj ns is ts with
    | error q =>
      rw[hq]at hp
      obtain ⟨h1,K9,n',La,h2⟩:=hp
      refine ⟨h1,K9,n',La,fun e0 => ?_⟩
      rw[e2,h2]
      show (bif (q.1 != 0)then _ else _)=_
      have:(q.1 != 0)=true:=by simpa using h1.2
      rw[this,cond_true]
    | ok q =>
      obtain ⟨⟨ns1,is1⟩,KM⟩:=q
      rw[hq]at hp
      obtain ⟨h1,h2⟩:=hp
      have hlen:=JQ hfl hq
      have hout:=Wx hq
      simp only at h1 h2 hlen hout ⊢
      have s1:=fun k:Bool→List Token→Int→Option R=>FG cl h1.ne k
      cases hs:mg cl KM with
      | some r =>
        rw[hs]at s1
        refine ⟨Dr h1 hs,fun e0 => ?_⟩
        rw[e2,h2]
        show aq cl KM 0 _=_
        rw[s1]
        rfl
      | none =>
        rw[hs]at s1
        have s2:=fun k:Bool→List Token→Int→Option R=>FG [44] h1.ne k
        simp only
        cases UA:mg [44] KM with
        | none =>
          rw[UA]at s2
          refine ⟨⟨h1,by show (_:Int)≠0; simp⟩,ns1,is1.length,is1,fun e0 => ?_⟩
          rw[e2,h2]
          show aq cl KM 0 _=_
          rw[s1]
          show aq [44] KM 0 _=_
          rw[s2]
          rfl
        | some r =>
          rw[UA]at s2
          have hl3:=Bq UA
          have hih:=ih ns1 is1 r (by omega) (Dr h1 UA) (by omega) (by omega) (by omega)
          have e3:∀e0,aK jn (F+1) cl ts 0 obj kd a b tx ns is.length d is e0=aK jn F cl r 0 obj kd a b tx ns1 is1.length d is1 e0:=fun e0=>by
            rw[e2,h2]
            show aq cl KM 0 _=_
            rw[s1]
            show aq [44] KM 0 _=_
            rw[s2]
            rfl
          simp only[e3]
          exact hih

theorem UE {R:Type} (jn:ax R) (f:List Token→Except RZ (Json × List Token)) (hfl:∀ts p,f ts = .ok p→p.2.length<ts.length) (d:Int) (hd:0≤d∧d≤16) (B:Nat) (hBB:B≤100000000) (hv:Hval jn f (d+1) B) (obj:Bool) (kd a b:Int) (tx cl:aj)
    (r:List Token) (he:Ag r) (hB:r.length≤B) (hs:mg cl r=none) :
    Wv (fun p:(List aj × List Json) × List Token=>Ag p.2∧∀K0 (K:Json→List Token→Int→Option R),bH jn cl r 0 obj kd a b tx d K0 (fun Ek Da F7 GB Kc Hw PQ Nh BW Th Rk=>K ⟨GB,⟨Kc,Hw⟩,PQ,Nh,Rk⟩ Ek Da)=K ⟨kd,⟨a,b⟩,tx,p.1.1,p.1.2⟩ p.2 0)
      (fun q=>(Ag q.2∧q.1≠0)∧∃v,∀K0 (K:Json→List Token→Int→Option R),bH jn cl r 0 obj kd a b tx d K0 (fun Ek Da F7 GB Kc Hw PQ Nh BW Th Rk=>K ⟨GB,⟨Kc,Hw⟩,PQ,Nh,Rk⟩ Ek Da)=K v q.2 q.1) (zE f cl obj (r.length+1) [] [] r):=by
  have e1:∀K0 K1,bH jn cl r 0 obj kd a b tx d K0 K1=aq cl r 0 (fun yf wc zO=>bif yf then (K0 wc zO obj kd a b tx d)else (aK jn (List.length cl+List.length wc+Int.natAbs zO+Int.natAbs kd+Int.natAbs a+Int.natAbs b+List.length tx+List.length ([]:List aj)+Int.natAbs d+List.length ([]:List Json)+64) cl wc zO obj kd a b tx ([]:List aj) 0 d ([]:List Json) K1)):=fun K0 K1=>rfl
  have s1:=fun k:Bool→List Token→Int→Option R=>FG cl he.ne k
  rw[hs]at s1
  have hl:=loop_ok jn f hfl d hd B hBB hv obj kd a b tx cl (List.length cl+List.length r+Int.natAbs 0+Int.natAbs kd+Int.natAbs a+Int.natAbs b+List.length tx+List.length ([]:List aj)+Int.natAbs d+List.length ([]:List Json)+64) [] [] r (by omega) he hB (by simp; omega) (by simp; omega)
  have e2:∀K0 K1,bH jn cl r 0 obj kd a b tx d K0 K1=aK jn (List.length cl+List.length r+Int.natAbs 0+Int.natAbs kd+Int.natAbs a+Int.natAbs b+List.length tx+List.length ([]:List aj)+Int.natAbs d+List.length ([]:List Json)+64) cl r 0 obj kd a b tx ([]:List aj) ([]:List Json).length d ([]:List Json) K1:=fun K0 K1=>by
    rw[e1,s1]
    rfl
  rw[MW hfl _ (r.length+1) [] [] r (by omega) (by omega)]at hl
  cases hq:zE f cl obj (r.length+1) [] [] r with
  | error q =>
    rw[hq]at hl
    obtain ⟨h1,K9,n',La,h2⟩:=hl
    exact ⟨h1,⟨kd,⟨a,b⟩,tx,K9,La⟩,fun K0 K=>by rw[e2,h2]⟩
  | ok p =>
    rw[hq]at hl
    obtain ⟨h1,h2⟩:=hl
    exact ⟨h1,fun K0 K=>by rw[e2,h2]⟩
theorem OO {R:Type} (jn:ax R) (obj:Bool) (kd a b d:Int) (tx cl:aj) (r r':List Token) (hn:r ≠ []) (hs:mg cl r=some r') (K0 K1) :
    bH (R:=R) jn cl r 0 obj kd a b tx d K0 K1=K0 r' 0 obj kd a b tx d:=by
  have e1:bH jn cl r 0 obj kd a b tx d K0 K1=aq cl r 0 (fun yf wc zO=>bif yf then (K0 wc zO obj kd a b tx d)else (aK jn (List.length cl+List.length wc+Int.natAbs zO+Int.natAbs kd+Int.natAbs a+Int.natAbs b+List.length tx+List.length ([]:List aj)+Int.natAbs d+List.length ([]:List Json)+64) cl wc zO obj kd a b tx ([]:List aj) 0 d ([]:List Json) K1)):=rfl
  rw[e1,FG cl hn,hs]
  rfl

theorem P2 {R:Type} (jn:ax R) (d:Int) (r:List Token) (q:Json→List Token→Int→Option R):ct jn true d r 0 q =
    bH jn [125] r 0 true 7 0 0 [] d (fun y5 y6 y7 y8 y9 yf wc zO=>q ⟨y8,⟨y9,yf⟩,wc, [], []⟩ y5 y6) (fun Ek Da F7 GB Kc Hw PQ Nh BW Th Rk=>q ⟨GB,⟨Kc,Hw⟩,PQ,Nh,Rk⟩ Ek Da):=rfl
theorem P3 {R:Type} (jn:ax R) (d:Int) (r:List Token) (q:Json→List Token→Int→Option R):ct jn false d r 0 q =
    bH jn [93] r 0 false 6 0 0 [] d (fun y5 y6 y7 y8 y9 yf wc zO=>q ⟨y8,⟨y9,yf⟩,wc, [], []⟩ y5 y6) (fun Ek Da F7 GB Kc Hw PQ Nh BW Th Rk=>q ⟨GB,⟨Kc,Hw⟩,PQ,Nh,Rk⟩ Ek Da):=rfl

section
variable {R:Type} (jn:ax R) (d:Int) (t:Token) (r:List Token) (k:Json→List Token→Int→Option R)
noncomputable def J18:Option R:=bif (t.kind==3)then k ⟨4,⟨t.num.aB,t.num.exp⟩, [], [], []⟩ r 0 else k ⟨5,⟨0,0⟩,t.text, [], []⟩ r 0
noncomputable def Wy (z:Bool):Option R:=bif z then (bif (t.kind==4)then k ⟨nA .str (.int .i64) t.text P1,⟨0,0⟩, [], [], []⟩ r 0 else J18 t r k)else J18 t r k
noncomputable def J17 (z:Bool):Option R:=bif z then (bif (t.kind==1)then ct jn (t.text == [123]) d r 0 (fun zO Ek Da=>k ⟨zO.kind,⟨zO.num.aB,zO.num.exp⟩,zO.text,zO.names,zO.items⟩ Ek Da)else J18 t r k)
  else (bif (t.text==oZ)then Wy t r k (t.text==oZ)else (bif (t.text==ll)then Wy t r k (t.text==ll)else Wy t r k (t.text==sc)))
noncomputable def J19:Option R:=cX (decide ((1:Int)≤((t::r).length:Int))) (bif (t.text == [91])then J17 jn d t r k (t.text == [91])else J17 jn d t r k (t.text == [123]))
noncomputable def J20 (z:Bool):Option R:=bif (!z)then k ⟨0,⟨0,0⟩, [], [], []⟩ (t::r) 40 else (bif (decide (d>16))then k ⟨0,⟨0,0⟩, [], [], []⟩ (t::r) 41 else J19 jn d t r k)
end

theorem TE {R:Type} (n:Nat) (d:Int) (t:Token) (r:List Token) (k:Json→List Token→Int→Option R):bz (n+1) d (t::r) 0 k=J20 (bz n) d t r k (sZ t):=by
  have e0:bz (n+1) d (t::r) 0 k=cX (decide ((0:Int)<((t::r).length:Int))) (let j:=J20 (bz n) d t r k; bif (t.kind==2)then j true else (bif (t.kind==3)then j true else (bif (t.kind==4)then j true else (bif (t.kind==1)then (bif (t.text == [91])then j true else j (t.text == [123]))else j false)))):=rfl
  rw[e0,aT za]
  unfold sZ BR
  simp only
  cases t.kind==2 <;> cases t.kind==3 <;> cases t.kind==4 <;> cases t.kind==1 <;> cases t.text == [91] <;> rfl

theorem TF {x:aj} (h:BR x=true):CP x=false:=by
  unfold BR at h
  rw[Bool.or_eq_true,beq_iff_eq,beq_iff_eq]at h
  rcases h with rfl|rfl <;> rfl

theorem ZI {R:Type} (B:Nat) (hBB:B≤100000000):∀(n:Nat) (d:Int),0≤d→d≤17→17 - d<n→Hval (R:=R) (bz n) (xK n d) d B:=by
  intro n
  induction n with
  | zero=>intro d h0 h1 h2; omega
  | succ n ih =>
    intro d h0 h1 h2 ts he hB
    cases ts with
    | nil=>exact (he.ne rfl).elim
    | cons t r =>
      simp only[xK]
      have hv:=fun k=>TE (R:=R) n d t r k
      cases SK:sZ t with
      | false =>
        rw[if_pos rfl]
        rw[SK]at hv
        exact ⟨⟨he,by show (_:Int)≠0; simp⟩,_,fun k=>hv k⟩
      | true =>
        rw[if_neg (by simp)]
        rw[SK]at hv
        by_cases hd:d>16
        · rw[if_pos hd]
          refine ⟨⟨he,by show (_:Int)≠0; simp⟩,⟨0,⟨0,0⟩, [], [], []⟩,fun k => ?_⟩
          rw[hv]
          unfold J20
          have e1:decide (d>16)=true:=by simpa using hd
          rw[e1]
          rfl
        · rw[if_neg hd]
          have hk5:t.kind≠5:=by
            intro h5
            simp[sZ,h5]at SK
          have her:=he.tail hk5
          have hrB:r.length≤B:=by simp only[List.length_cons]at hB; omega
          have VE:∀k,bz (n+1) d (t::r) 0 k=J17 (bz n) d t r k (BR t.text):=fun k=>by
            rw[hv]
            unfold J20
            have e1:decide (d>16)=false:=by simpa using hd
            rw[e1,Bool.not_true,cond_false,cond_false]
            unfold J19
            rw[aT K7]
            unfold BR
            cases t.text == [91] <;> rfl
          have h18:¬(t.kind=1∧BR t.text=true)→¬(t.kind=4∧CP t.text=true)→∀k,bz (n+1) d (t::r) 0 k=J18 t r k:=fun g1 g2 k=>by
            rw[VE]
            unfold J17
            cases ho:BR t.text with
            | true =>
              have:(t.kind==1)=false:=by
                rw[beq_eq_false_iff_ne]
                exact fun h=>g1 ⟨h,ho⟩
              rw[cond_true,this,cond_false]
            | false =>
              rw[cond_false]
              have Qc:(bif (t.text==oZ)then Wy t r k (t.text==oZ)else (bif (t.text==ll)then Wy t r k (t.text==ll)else Wy t r k (t.text==sc)))=Wy t r k (CP t.text):=by
                unfold CP
                cases t.text==oZ <;> cases t.text==ll <;> rfl
              rw[Qc]
              unfold Wy
              cases hn:CP t.text with
              | false=>rfl
              | true =>
                have:(t.kind==4)=false:=by
                  rw[beq_eq_false_iff_ne]
                  exact fun h=>g2 ⟨h,hn⟩
                rw[cond_true,this,cond_false]
          by_cases WQ:t.kind=1∧BR t.text=true
          · rw[if_pos WQ]
            have ek:(t.kind==1)=true:=by simpa using WQ.1
            have hvp:∀k,bz (n+1) d (t::r) 0 k=ct (bz n) (t.text == [123]) d r 0 k:=fun k=>by
              rw[VE]
              unfold J17
              rw[WQ.2,cond_true,ek,cond_true]
              simp only[Json.eta]
            have jn:=ih (d+1) (by omega) (by omega) (by omega)
            have hfl:=fun ts p=>RP n (d+1) ts p
            cases QR:t.text == [123]with
            | true =>
              simp only[if_true]
              rw[QR]at hvp
              cases hs:mg [125] r with
              | some r' =>
                refine ⟨Dr her hs,fun k => ?_⟩
                rw[hvp]
                rw[P2]
                rw[OO _ _ _ _ _ _ _ _ _ _ her.ne hs]
              | none =>
                have hl:=UE (R:=R) _ _ hfl d ⟨h0,by omega⟩ B hBB jn true 7 0 0 [] [125] r her hrB hs
                simp only
                cases hq:zE (xK n (d+1)) [125] true (r.length+1) [] [] r with
                | error q =>
                  rw[hq]at hl
                  obtain ⟨g1,v,g2⟩:=hl
                  refine ⟨g1,v,fun k => ?_⟩
                  rw[hvp]
                  rw[P2]
                  exact g2 _ k
                | ok p =>
                  rw[hq]at hl
                  obtain ⟨g1,g2⟩:=hl
                  refine ⟨g1,fun k => ?_⟩
                  rw[hvp]
                  rw[P2]
                  exact g2 _ k
            | false =>
              simp only[Bool.false_eq_true,if_false]
              rw[QR]at hvp
              cases hs:mg [93] r with
              | some r' =>
                refine ⟨Dr her hs,fun k => ?_⟩
                rw[hvp]
                rw[P3]
                rw[OO _ _ _ _ _ _ _ _ _ _ her.ne hs]
              | none =>
                have hl:=UE (R:=R) _ _ hfl d ⟨h0,by omega⟩ B hBB jn false 6 0 0 [] [93] r her hrB hs
                simp only
                cases hq:zE (xK n (d+1)) [93] false (r.length+1) [] [] r with
                | error q =>
                  rw[hq]at hl
                  obtain ⟨g1,v,g2⟩:=hl
                  refine ⟨g1,v,fun k => ?_⟩
                  rw[hvp]
                  rw[P3]
                  exact g2 _ k
                | ok p =>
                  rw[hq]at hl
                  obtain ⟨g1,g2⟩:=hl
                  refine ⟨g1,fun k => ?_⟩
                  rw[hvp]
                  rw[P3]
                  exact g2 _ k
          · rw[if_neg WQ]
            by_cases Qc:t.kind=4∧CP t.text=true
            · rw[if_pos Qc]
              refine ⟨her,fun k => ?_⟩
              rw[VE]
              have ho:BR t.text=false:=by
                cases ho:BR t.text with
                | false=>rfl
                | true=>rw[TF ho]at Qc; cases Qc.2
              have ek:(t.kind==4)=true:=by simpa using Qc.1
              unfold J17
              rw[ho,cond_false]
              have IW:(bif (t.text==oZ)then Wy t r k (t.text==oZ)else (bif (t.text==ll)then Wy t r k (t.text==ll)else Wy t r k (t.text==sc)))=Wy t r k (CP t.text):=by
                unfold CP
                cases t.text==oZ <;> cases t.text==ll <;> rfl
              rw[IW,Qc.2]
              unfold Wy
              rw[ek]
              rfl
            · rw[if_neg Qc]
              have h:=h18 WQ Qc
              by_cases hk3:t.kind=3
              · rw[if_pos hk3]
                refine ⟨her,fun k => ?_⟩
                rw[h]
                unfold J18
                have ek:(t.kind==3)=true:=by simpa using hk3
                rw[ek]
                rfl
              · rw[if_neg hk3]
                refine ⟨her,fun k => ?_⟩
                rw[h]
                unfold J18
                have ek:(t.kind==3)=false:=by simpa using hk3
                rw[ek]
                rfl


end Go.Proofs.YtmlkkgfenfdndaaGreatDoor

/-
  Functions of the program as pure Lean functions, and the ties; printed by wip/tools/emit.py.
-/
set_option maxRecDepth 100000
namespace Go.Proofs.YtmlkkgfenfdndaaGreatDoor
open Go Go.ay

end Go.Proofs.YtmlkkgfenfdndaaGreatDoor

set_option maxRecDepth 100000
namespace Go.Proofs.YtmlkkgfenfdndaaGreatDoor
open Go Go.ay Go.Lib

theorem OP:∀(n p:Nat) (s:aj) (out:List Token),(vT n p s out).1.length≤out.length+s.length+1
  | 0,_,_,_=>by simp[vT]
  | n+1,p,s,out=>by
    simp only[vT]
    split
    · simp <;> omega
    · split
      · simp
      · rename_i t r hr
        have h1:=(tokS_sfx hr).2
        have h2:=yM rE s
        have h3:=OP n (p+(s.length - r.length)) r (out ++ [putT t ((p+(s.takeWhile rE).length:Nat):Int)])
        rw[List.length_append,List.length_cons,List.length_nil]at h3
        omega

theorem Wz (s:aj):(tM s).1.length≤20002:=by
  unfold tM
  split
  · simp
  · have:=OP (s.length+1) 0 s []
    simp at this
    omega

end Go.Proofs.YtmlkkgfenfdndaaGreatDoor

/-
  Functions of the program as pure Lean functions, and the ties; printed by wip/tools/emit.py.
-/
set_option maxRecDepth 100000
namespace Go.Proofs.YtmlkkgfenfdndaaGreatDoor
open Go Go.ay

end Go.Proofs.YtmlkkgfenfdndaaGreatDoor

set_option maxRecDepth 100000
namespace Go.Proofs.YtmlkkgfenfdndaaGreatDoor
open Go Go.ay Go.Lib

structure RawW (R:Type) (x:FY) (p:aj × Token):Prop where
  word:Word p.1 p.2
  len:p.1.length≤182
  run:∀k:aj→Option R,ME x k=k p.1
  kind:∃q:Int,p.2.kind=1+q∧0≤q∧q<4∧∀k:Int→Option R,kg x.kind 4 k=k q
  text:p.2.kind=2→∀k:aj→Bool→Option R,bS p.2.text k=k p.1 true
  other:p.2.kind≠2→p.2.text=p.1
  num:p.2.kind=3→∀k:iO→Option R,di x.aB x.exp k=k p.2.num

end Go.Proofs.YtmlkkgfenfdndaaGreatDoor

/-
  Functions of the program as pure Lean functions, and the ties; printed by wip/tools/emit.py.
-/
set_option maxRecDepth 100000
namespace Go.Proofs.YtmlkkgfenfdndaaGreatDoor
open Go Go.ay

end Go.Proofs.YtmlkkgfenfdndaaGreatDoor

/-
  Functions of the program as pure Lean functions, and the ties; printed by wip/tools/emit.py.
-/
set_option maxRecDepth 100000
namespace Go.Proofs.YtmlkkgfenfdndaaGreatDoor
open Go Go.ay

end Go.Proofs.YtmlkkgfenfdndaaGreatDoor

set_option maxRecDepth 100000
namespace Go.Proofs.YtmlkkgfenfdndaaGreatDoor
open Go Go.ay Go.Lib

def Qd (t:Token):Int × aj × iO:=(t.kind,t.text,t.num)
theorem tokW_st:∀(l:List sT) (p:Nat),(tokW p l).map Qd=l.map fun x=>Qd x.2.2
  | [],_=>rfl
  | x::l,p=>by simp only[tokW,List.map_cons,tokW_st l]; rfl


theorem OQ:∀(n p:Nat) (s:aj) (out:List Token),s.length<n→(vT n p s out).2.1=0→Ag (vT n p s out).1
  | 0,_,_,_,h,_=>by omega
  | n+1,p,s,out,h,he=>by
    simp only[vT]at he ⊢
    by_cases hd:s.dropWhile rE = []
    · rw[if_pos hd]
      exact ⟨_,List.getLast?_concat ..,rfl⟩
    · rw[if_neg hd]at he ⊢
      cases hr:tokS (s.dropWhile rE)with
      | none=>rw[hr]at he; cases he
      | some q =>
        obtain ⟨t,r⟩:=q
        rw[hr]at he
        have h3:=(tokS_sfx hr).2
        have h4:=yM rE s
        exact OQ n _ r _ (by omega) he
theorem WA (s:aj) (he:(tM s).2.1=0):Ag (tM s).1:=by
  unfold tM at he ⊢
  split at he
  · cases he
  · rename_i h
    rw[if_neg h]
    exact OQ _ _ _ _ (by omega) he

def JR (s:aj):Json × Int × Int :=
  if (tM s).2.1≠0 then (⟨0,⟨0,0⟩, [], [], []⟩,(tM s).2.1,(tM s).2.2)else
  match xK 40 1 (tM s).1 with
  | .error b=>(⟨0,⟨0,0⟩, [], [], []⟩,b.1,(b.2.getD 0 ⟨0, [],⟨0,0⟩,0⟩).at_)
  | .ok (v,r)=>if (r.getD 0 ⟨0, [],⟨0,0⟩,0⟩).kind≠5 then (⟨0,⟨0,0⟩, [], [], []⟩,40,(r.getD 0 ⟨0, [],⟨0,0⟩,0⟩).at_)else (v,0,0)

theorem WB {R:Type} (s:aj) (k:Json→Int→Int→Option R):eg s k=k (JR s).1 (JR s).2.1 (JR s).2.2:=by
  have e0:eg s k=Bk ak cD kf s k:=rfl
  rw[e0]
  unfold Bk JR
  rw[scan_ok]
  by_cases h:(tM s).2.1=0
  rotate_left
  · have e1:((tM s).2.1 != 0)=true:=by simpa using h
    rw[if_pos h,e1]
    rfl
  have e1:((tM s).2.1 != 0)=false:=by simpa using h
  rw[if_neg (by simpa using h),e1,cond_false]
  have hE:=WA s h
  have hL:=Wz s
  have hv:=ZI (R:=R) 20002 (by omega) 40 1 (by omega) (by omega) (by omega) (tM s).1 hE hL
  have e2:∀q,cD (R:=R) 1 (tM s).1 0 q=bz 40 1 (tM s).1 0 q:=fun q=>rfl
  rw[e2]
  cases hq:xK 40 1 (tM s).1 with
  | error b =>
    rw[hq]at hv
    obtain ⟨⟨g1,g2⟩,v,g3⟩:=hv
    rw[g3]
    obtain ⟨c,r⟩:=b
    cases r with
    | nil=>exact (g1.ne rfl).elim
    | cons t r =>
      have e3:(c != 0)=true:=by simpa using g2
      have hf:∀q:List Token→Int→Option R,ak 40 (t::r) c q=q (t::r) c:=fun q=>by
        show (bif c==0 then q (t::r) 40 else q (t::r) c)=_
        have e4:(c==0)=false:=by simpa using g2
        rw[e4]; rfl
      rw[aT za]
      simp only[hf]
      have hz:∀z:Bool,(bif z then (bif (c != 0)then cX (decide ((0:Int)<((t::r).length:Int))) (k ⟨0,⟨0,0⟩, [], [], []⟩ c t.at_)else k v 0 0)else (bif (c != 0)then cX (decide ((0:Int)<((t::r).length:Int))) (k ⟨0,⟨0,0⟩, [], [], []⟩ c t.at_)else k v 0 0))=k ⟨0,⟨0,0⟩, [], [], []⟩ c t.at_:=fun z=>by
        rw[e3,aT za]
        cases z <;> rfl
      have:=hz (t.kind != 5)
      obtain ⟨kd,⟨n1,n2⟩,tx,ns,is⟩:=v
      exact this
  | ok p =>
    rw[hq]at hv
    obtain ⟨g1,g2⟩:=hv
    obtain ⟨v,r⟩:=p
    rw[g2]
    cases r with
    | nil=>exact (g1.ne rfl).elim
    | cons t r =>
      rw[aT za]
      by_cases hk:t.kind=5
      · have e3:(t.kind != 5)=false:=by simpa using hk
        have:((((v,t::r):Json × List Token).2).getD 0 (Ty.cn .token)).kind=t.kind:=rfl
        show (bif (t.kind != 5)then _ else _)=_
        rw[e3,cond_false]
        obtain ⟨kd,⟨n1,n2⟩,tx,ns,is⟩:=v
        show k ⟨kd,⟨n1,n2⟩,tx,ns,is⟩ 0 0=_
        have qT:¬(((t::r).getD 0 ⟨0, [],⟨0,0⟩,0⟩).kind≠5):=fun h=>h hk
        simp only
        rw[if_neg qT]
      · have e3:(t.kind != 5)=true:=by simpa using hk
        show (bif (t.kind != 5)then _ else _)=_
        rw[e3,cond_true]
        show cX (decide ((0:Int)<((t::r).length:Int))) (k ⟨0,⟨0,0⟩, [], [], []⟩ 40 t.at_)=_
        rw[aT za]
        have qT:(((t::r).getD 0 ⟨0, [],⟨0,0⟩,0⟩).kind≠5):=hk
        simp only
        rw[if_pos qT]
        rfl

def TG (x:sT):Int × aj × iO:=Qd x.2.2
theorem Ed {ts:List Token} {x:sT} {l:List sT} (h:ts.map Qd=(x::l).map TG):∃t r,ts=t::r∧Qd t=TG x∧r.map Qd=l.map TG:=by
  cases ts with
  | nil=>cases h
  | cons t r =>
    simp only[List.map_cons,List.cons.injEq]at h
    exact ⟨t,r,rfl,h.1,h.2⟩
theorem P4 {ts:List Token} {a b:List sT} (h:ts.map Qd=(a++b).map TG):∃u v,ts=u++v∧u.map Qd=a.map TG∧v.map Qd=b.map TG:=by
  rw[List.map_append]at h
  obtain ⟨u,v,e,h1,h2⟩:=List.map_eq_append_iff.1 h
  exact ⟨u,v,e,h1,h2⟩
theorem MX {ts:List Token} {x:sT} (h:ts.map Qd = [x].map TG):∃t,ts = [t]∧Qd t=TG x:=by
  obtain ⟨t,r,e,h1,h2⟩:=Ed h
  cases r with
  | nil=>exact ⟨t,e,h1⟩
  | cons u r=>cases h2
theorem xq {t:Token} {x:sT} (h:Qd t=TG x):t.kind=x.2.2.kind∧t.text=x.2.2.text∧t.num=x.2.2.num:=by
  unfold TG Qd at h
  simp only[Prod.mk.injEq]at h
  exact h

theorem ZJ {n:Nat} {d:Int} (hd:d≤16) {t:Token} {rest:List Token} {x:aj} (hx:x=oZ∨x=ll∨x=sc) (hk:t.kind=4) (ht:t.text=x) :
    xK (n+1) d (t::rest) = .ok (⟨nA .str (.int .i64) x P1,⟨0,0⟩, [], [], []⟩,rest):=by
  have h1:sZ t=true:=by simp[sZ,hk]
  have h2:CP t.text=true:=by
    rw[ht]
    rcases hx with rfl|rfl|rfl <;> rfl
  simp only[xK]
  rw[if_neg (by rw[h1]; simp),if_neg (by omega),if_neg (by rw[hk]; simp),if_pos ⟨hk,h2⟩,ht]

theorem WC {n:Nat} {d:Int} {ts:List Token} {p:Json × List Token} (h:xK n d ts = .ok p):mg [93] ts=none∧mg [125] ts=none:=by
  cases n with
  | zero=>cases h
  | succ n =>
    cases ts with
    | nil=>cases h
    | cons t r =>
      simp only[xK]at h
      by_cases hs:sZ t=false
      · rw[if_pos hs]at h; cases h
      · have j7:∀x:aj,x = [93]∨x = [125]→¬(t.kind=1∧t.text=x):=fun x hx ⟨h1,h2⟩=>by
          apply hs
          rcases hx with rfl|rfl <;> simp[sZ,BR,h1,h2]
        simp only[mg]
        rw[if_neg (j7 _ (.inl rfl)),if_neg (j7 _ (.inr rfl))]
        exact ⟨rfl,rfl⟩

mutual
theorem Hp:∀(v:Json) (d:Int) (n:Nat) (ts rest:List Token),gB v d=true→17 - d<n→ts.map Qd=(rS v).map TG→xK n d (ts++rest) = .ok (v,rest)
  | ⟨k,nm,t,ns,is⟩,d,0,ts,rest,h,hn,hw=>by
    have:d≤16:=by
      cases pk.1 h <;> assumption
    omega
  | ⟨k,nm,t,ns,is⟩,d,n+1,ts,rest,h,hn,hw=>by
    have hL:=RQ is
    have hO:=RR ns is
    cases pk.1 h with
    | name _ _ hd hk =>
      have HW:∀x:aj,(x=oZ∨x=ll∨x=sc)→ts.map Qd = [(([],x,⟨4,x,⟨0,0⟩,0⟩):sT)].map TG→xK (n+1) d (ts++rest) = .ok (⟨nA .str (.int .i64) x P1,⟨0,0⟩, [], [], []⟩,rest):=fun x hx hw=>by
        obtain ⟨u,rfl,hu⟩:=MX hw
        obtain ⟨h1,h2,_⟩:=xq hu
        exact ZJ hd hx h1 h2
      rcases hk with rfl|rfl|rfl
      · exact HW oZ (.inl rfl) hw
      · exact HW ll (.inr (.inl rfl)) hw
      · exact HW sc (.inr (.inr rfl)) hw
    | num _ _ hd Qc =>
      obtain ⟨u,rfl,hu⟩:=MX (x:=([],B7 nm,⟨3,B7 nm,nm,0⟩)) hw
      obtain ⟨h1,h2,h3⟩:=xq hu
      simp only at h1 h2 h3
      have hs:sZ u=true:=by simp[sZ,h1]
      show xK (n+1) d (u::rest)=_
      simp only[xK]
      rw[if_neg (by rw[hs]; simp),if_neg (by omega),if_neg (by rw[h1]; simp),if_neg (by rw[h1]; simp),if_pos h1,h3]
    | text _ _ hd ht =>
      obtain ⟨u,rfl,hu⟩:=MX (x:=Wp t) hw
      obtain ⟨h1,h2,h3⟩:=xq hu
      simp only[Wp]at h1 h2 h3
      have hs:sZ u=true:=by simp[sZ,h1]
      show xK (n+1) d (u::rest)=_
      simp only[xK]
      rw[if_neg (by rw[hs]; simp),if_neg (by omega),if_neg (by rw[h1]; simp),if_neg (by rw[h1]; simp),if_neg (by rw[h1]; simp),h2]
    | arr _ _ hd hi =>
      obtain ⟨u,KM,rfl,hu,hw2⟩:=Ed (x:=sg 91) (l:=sU is true ++ [sg 93]) hw
      obtain ⟨tl,tc,rfl,hl,Hu⟩:=P4 hw2
      obtain ⟨c,rfl,hc⟩:=MX Hu
      obtain ⟨h1,h2,_⟩:=xq hu
      obtain ⟨c1,c2,_⟩:=xq hc
      simp only[sg]at h1 h2 c1 c2
      have Es:BR u.text=true:=by rw[h2]; rfl
      have hs:sZ u=true:=by simp[sZ,h1,Es]
      have ho7:(u.text==([123]:aj))=false:=by rw[h2]; rfl
      show xK (n+1) d (u::(tl ++ [c]++rest))=_
      simp only[xK]
      rw[if_neg (by rw[hs]; simp),if_neg (by omega),if_pos ⟨h1,Es⟩,ho7]
      simp only[Bool.false_eq_true,if_false]
      cases is with
      | nil =>
        obtain rfl:tl = []:=by simpa [sU]using hl
        show (match mg [93] (c::rest)with|some r'=>_|none=>_)=_
        have:mg [93] (c::rest)=some rest:=by
          show (if c.kind=1∧c.text = [93]then some rest else none)=some rest
          rw[if_pos ⟨c1,c2⟩]
        rw[this]
      | cons x l =>
        obtain ⟨e1,e2⟩:=hL d n (tl ++ [c]++rest).length.succ [] [] tl c rest (by simp) hi (by omega) (by simp; omega) hl c1 c2
        rw[e1,e2]
        rfl
    | obj _ _ _ hd hlen hu7 hi =>
      obtain ⟨u,KM,rfl,hu,hw2⟩:=Ed (x:=sg 123) (l:=po ns is true ++ [sg 125]) hw
      obtain ⟨tl,tc,rfl,hl,Hu⟩:=P4 hw2
      obtain ⟨c,rfl,hc⟩:=MX Hu
      obtain ⟨h1,h2,_⟩:=xq hu
      obtain ⟨c1,c2,_⟩:=xq hc
      simp only[sg]at h1 h2 c1 c2
      have Es:BR u.text=true:=by rw[h2]; rfl
      have hs:sZ u=true:=by simp[sZ,h1,Es]
      have ho7:(u.text==([123]:aj))=true:=by rw[h2]; rfl
      show xK (n+1) d (u::(tl ++ [c]++rest))=_
      simp only[xK]
      rw[if_neg (by rw[hs]; simp),if_neg (by omega),if_pos ⟨h1,Es⟩,ho7]
      simp only[if_true]
      cases is with
      | nil =>
        obtain rfl:ns = []:=List.eq_nil_of_length_eq_zero hlen
        obtain rfl:tl = []:=by simpa [po]using hl
        show (match mg [125] (c::rest)with|some r'=>_|none=>_)=_
        have:mg [125] (c::rest)=some rest:=by
          show (if c.kind=1∧c.text = [125]then some rest else none)=some rest
          rw[if_pos ⟨c1,c2⟩]
        rw[this]
      | cons x l =>
        obtain ⟨e1,e2⟩:=hO d n (tl ++ [c]++rest).length.succ [] [] [] tl c rest (by simp) hlen hi hu7 (fun n=>rfl) (by omega) (by simp; omega) hl c1 c2
        rw[e1,e2]
        rfl
theorem RQ:∀(is:List Json) (d:Int) (n m:Nat) (Qe:List aj) (R0:List Json) (tl:List Token) (c:Token) (rest:List Token),is ≠ []→jj is (d+1)=true→17 - (d+1)<n→tl.length<m →
    tl.map Qd=(sU is true).map TG→c.kind=1→c.text = [93]→mg [93] (tl ++ [c]++rest)=none∧zE (xK n (d+1)) [93] false m Qe R0 (tl ++ [c]++rest) = .ok ((Qe,R0++is),rest)
  | [],_,_,_,_,_,_,_,_,h,_,_,_,_,_,_=>(h rfl).elim
  | x::l,d,n,0,Qe,R0,tl,c,rest,_,hr,hn,hm,hw,c1,c2=>by omega
  | x::l,d,n,m+1,Qe,R0,tl,c,rest,_,hr,hn,hm,hw,c1,c2=>by
    obtain ⟨tv,tr,rfl,hv,ht⟩:=P4 (a:=rS x) (b:=sU l false) hw
    simp only[jj,Bool.and_eq_true]at hr
    have hx:=Hp x (d+1) n tv (tr ++ [c]++rest) hr.1 hn hv
    have hL:=RQ l
    rw[show tv++tr ++ [c]++rest=tv++(tr ++ [c]++rest) by simp]
    refine ⟨(WC hx).1,?_⟩
    have hp:Ar (xK n (d+1)) false Qe R0 (tv++(tr ++ [c]++rest)) = .ok ((Qe,R0 ++ [x]),tr ++ [c]++rest):=by
      simp only[Ar,hx]
    simp only[zE,hp]
    cases l with
    | nil =>
      obtain rfl:tr = []:=by simpa [sU]using ht
      have:mg [93] ([] ++ [c]++rest)=some rest:=by
        show (if c.kind=1∧c.text = [93]then some rest else none)=some rest
        rw[if_pos ⟨c1,c2⟩]
      rw[this]
    | cons y l' =>
      obtain ⟨u,WD,rfl,hu,ht'⟩:=Ed (x:=sg 44) (l:=sU (y::l') true) ht
      obtain ⟨u1,u2,_⟩:=xq hu
      simp only[sg]at u1 u2
      have s1:mg [93] (u::WD ++ [c]++rest)=none:=by
        show (if u.kind=1∧u.text = [93]then some (WD ++ [c]++rest)else none)=none
        rw[if_neg (by rw[u2]; rintro ⟨_,h⟩; cases h)]
      have s2:mg [44] (u::WD ++ [c]++rest)=some (WD ++ [c]++rest):=by
        show (if u.kind=1∧u.text = [44]then some (WD ++ [c]++rest)else none)=_
        rw[if_pos ⟨u1,u2⟩]
      rw[s1,s2]
      obtain ⟨_,e2⟩:=hL d n m Qe (R0 ++ [x]) WD c rest (by simp) hr.2 hn (by simp at hm; omega) ht' c1 c2
      simp only
      rw[e2]
      simp
theorem RR:∀(ns:List aj) (is:List Json) (d:Int) (n m:Nat) (Qe:List aj) (R0:List Json) (seen:List aj) (tl:List Token) (c:Token) (rest:List Token),is ≠ []→ns.length=is.length→jj is (d+1)=true→vU seen ns=true→(∀n,Qe.contains n=seen.contains n) →
    17 - (d+1)<n→tl.length<m →
    tl.map Qd=(po ns is true).map TG→c.kind=1→c.text = [125]→mg [125] (tl ++ [c]++rest)=none∧zE (xK n (d+1)) [125] true m Qe R0 (tl ++ [c]++rest) = .ok ((Qe++ns,R0++is),rest)
  | _, [],_,_,_,_,_,_,_,_,_,h,_,_,_,_,_,_,_,_,_=>(h rfl).elim
  | [],x::l,d,n,m,Qe,R0,seen,tl,c,rest,_,hlen,hr,hu,hsn,hn,hm,hw,c1,c2=>by cases hlen
  | nm::ns,x::l,d,n,0,Qe,R0,seen,tl,c,rest,_,hlen,hr,hu,hsn,hn,hm,hw,c1,c2=>by omega
  | nm::ns,x::l,d,n,m+1,Qe,R0,seen,tl,c,rest,_,hlen,hr,hu,hsn,hn,hm,hw,c1,c2=>by
    obtain ⟨tn,tl1,rfl,hn1,hw1⟩:=Ed (x:=Wp nm) (l:=sg 58::(rS x++po ns l false)) hw
    obtain ⟨tk,tl2,rfl,Vw,hw2⟩:=Ed hw1
    obtain ⟨tv,tr,rfl,hv,ht⟩:=P4 hw2
    obtain ⟨n1,n2,_⟩:=xq hn1
    obtain ⟨k1,k2,_⟩:=xq Vw
    simp only[Wp]at n1 n2
    simp only[sg]at k1 k2
    simp only[jj,Bool.and_eq_true]at hr
    simp only[vU,Bool.and_eq_true,Bool.not_eq_true']at hu
    have hx:=Hp x (d+1) n tv (tr ++ [c]++rest) hr.1 hn hv
    have hO:=RR ns l
    rw[show tn::tk::(tv++tr) ++ [c]++rest=tn::tk::(tv++(tr ++ [c]++rest)) by simp]
    refine ⟨?_,?_⟩
    · show (if tn.kind=1∧tn.text = [125]then some _ else none)=none
      rw[if_neg (by rw[n1]; rintro ⟨h,_⟩; cases h)]
    have Qc:GM Qe (tn::tk::(tv++(tr ++ [c]++rest))) = .ok (nm,tv++(tr ++ [c]++rest)):=by
      simp only[GM]
      rw[if_neg (by rw[n1]; simp),if_neg (by rw[n2,hsn,hu.1.1]; simp)]
      have:mg [58] (tk::(tv++(tr ++ [c]++rest)))=some (tv++(tr ++ [c]++rest)):=by
        show (if tk.kind=1∧tk.text = [58]then some (tv++(tr ++ [c]++rest))else none)=_
        rw[if_pos ⟨k1,k2⟩]
      rw[this,n2]
    have hp:Ar (xK n (d+1)) true Qe R0 (tn::tk::(tv++(tr ++ [c]++rest))) = .ok ((Qe ++ [nm],R0 ++ [x]),tr ++ [c]++rest):=by
      simp only[Ar,Qc,hx]
    simp only[zE,hp]
    cases l with
    | nil =>
      obtain rfl:ns = []:=List.eq_nil_of_length_eq_zero (by simpa using hlen)
      obtain rfl:tr = []:=by simpa [po]using ht
      have:mg [125] ([] ++ [c]++rest)=some rest:=by
        show (if c.kind=1∧c.text = [125]then some rest else none)=some rest
        rw[if_pos ⟨c1,c2⟩]
      rw[this]
    | cons y l' =>
      obtain ⟨u,WD,rfl,TR,ht'⟩:=Ed (x:=sg 44) (l:=po ns (y::l') true) ht
      obtain ⟨u1,u2,_⟩:=xq TR
      simp only[sg]at u1 u2
      have s1:mg [125] (u::WD ++ [c]++rest)=none:=by
        show (if u.kind=1∧u.text = [125]then some (WD ++ [c]++rest)else none)=none
        rw[if_neg (by rw[u2]; rintro ⟨_,h⟩; cases h)]
      have s2:mg [44] (u::WD ++ [c]++rest)=some (WD ++ [c]++rest):=by
        show (if u.kind=1∧u.text = [44]then some (WD ++ [c]++rest)else none)=_
        rw[if_pos ⟨u1,u2⟩]
      rw[s1,s2]
      obtain ⟨_,e2⟩:=hO d n m (Qe ++ [nm]) (R0 ++ [x]) (nm::seen) WD c rest (by simp) (by simpa using hlen) hr.2 hu.2 (fun z=>by
        rw[List.contains_append,hsn,List.contains_cons,List.contains_cons,List.contains_nil,Bool.or_false,Bool.or_comm]) hn (by simp at hm; omega) ht' c1 c2
      simp only
      rw[e2]
      simp
end

theorem RS {v:Json} (h:gB v 1=true) (ts:List Token) (rest:List Token) (hw:ts.map Qd=(rS v).map TG):xK 40 1 (ts++rest) = .ok (v,rest):=Hp v 1 40 ts rest h (by omega) hw

theorem RT {v:Json} (h:gB v 1=true) (hl:(oe v).length≤20000):JR (oe v)=(v,0,0):=by
  have Zx:=FX v []
  rw[List.append_nil]at Zx
  have rU:=IN v 1 h [] (.inl rfl)
  have hlen:=MK (rS v) []
  have hs:=RH (rS v) [] (by simp) rU (by rw[Zx]at hlen; simp at hlen ⊢; omega)
  rw[Zx]at hs
  have hv:=RS h (tokW 0 (rS v)) [⟨5, [],⟨0,0⟩,((Fz (rS v)+0:Nat):Int)⟩] (tokW_st _ _)
  unfold JR
  rw[hs]
  simp only[ne_eq,not_true_eq_false,if_false,List.length_nil]
  rw[hv]
  rfl

def tight (l:List sT):Prop:=∀x∈l,x.1 = []
mutual
theorem ZK:∀v:Json,tight (rS v)
  | ⟨k,n,t,ns,is⟩=>by
    have hL:=ZL is
    have hO:=ZM ns is
    intro x hx
    simp only[rS]at hx
    split at hx
    · simp at hx; rw[hx]
    split at hx
    · simp at hx; rw[hx]
    split at hx
    · simp at hx; rw[hx]
    split at hx
    · simp at hx; rw[hx]
    split at hx
    · simp[Wp]at hx; rw[hx]
    split at hx
    · simp only[List.mem_cons,List.mem_append,List.not_mem_nil,or_false]at hx
      rcases hx with rfl|hx|rfl
      · rfl
      · exact hO true x hx
      · rfl
    · simp only[List.mem_cons,List.mem_append,List.not_mem_nil,or_false]at hx
      rcases hx with rfl|hx|rfl
      · rfl
      · exact hL true x hx
      · rfl
theorem ZL:∀(l:List Json) (first:Bool),tight (sU l first)
  | [],_=>by intro x hx; simp[sU]at hx
  | y::l,first=>by
    have h1:=ZK y
    have h2:=ZL l false
    intro x hx
    simp only[sU,List.mem_append]at hx
    rcases hx with hx|hx|hx
    · cases first
      · simp at hx; rw[hx]; rfl
      · simp at hx
    · exact h1 x hx
    · exact h2 x hx
theorem ZM:∀(ns:List aj) (l:List Json) (first:Bool),tight (po ns l first)
  | _, [],_=>by intro x hx; simp[po]at hx
  | ns,y::l,first=>by
    have h1:=ZK y
    have h2:=ZM ns.tail l false
    intro x hx
    simp only[po,List.mem_append,List.mem_cons]at hx
    rcases hx with hx|rfl|rfl|hx|hx
    · cases first
      · simp at hx; rw[hx]; rfl
      · simp at hx
    · rfl
    · rfl
    · exact h1 x hx
    · exact h2 x hx
end

theorem ZN (v:Json) (h:gB v 1=true):oe v ≠ []:=by
  intro e
  have h1:=FX v []
  rw[List.append_nil,e]at h1
  have rU:=IN v 1 h [] (.inl rfl)
  have hv:=RS h (tokW 0 (rS v)) [] (tokW_st _ _)
  cases hw:rS v with
  | nil=>rw[hw]at hv; cases hv
  | cons x l =>
    rw[hw]at h1 rU
    obtain ⟨_,⟨c,u,hc,_⟩,_⟩:=rU
    simp[qO,hc]at h1

theorem wq {R:Type} (t s:aj) (hv:jt t=true) (ht:t.length≤10000000000) (hl:(s++RI t).length≤100000000000) (k:List Int→Option R):aG t (zs s) k=k (zs (s++RI t)):=by
  obtain ⟨rs,hr,hc,rfl,_,hq⟩|⟨h,_⟩:=OC (R:=R) t ht
  · have e:aG (cT rs) (zs s) k=bS (cT rs) (fun y3 y4=>af y3 (zs s) (fun y5 y6=>k y6)):=rfl
    rw[K6 hr]at hl ⊢
    rw[List.length_append]at hl
    rw[e,hq]
    exact ws (qt rs) s (by omega) (by unfold Iv; omega) _
  · rw[hv]at h; cases h

def zF (v:Json) (i:Nat):aj:=if v.kind=7 then oB (v.names.drop i) (v.items.drop i) (i==0)else pn (v.items.drop i) (i==0)

theorem MY {R:Type} (f:bI R) (z:aj) (v:Json) (hl:v.items.length≤1099511627776) (h7:v.kind=7→v.names.length=v.items.length∧∀t∈v.names,jt t=true∧t.length≤10000000000)
    (hf:∀x∈v.items,∀(s:aj) (k:List Int→Option R),(s++oe x).length≤100000000000→f x (zs s) k=k (zs (s++oe x))) (e0:aj→List Int→Option R):∀(F i:Nat) (s:aj),i≤v.items.length→v.items.length - i<F→(s++zF v i).length≤100000000000 →
    aU f F z v.items (v.items.length:Int) (i:Int) (zs s) v e0=e0 z (zs (s++zF v i)):=by
  intro F
  induction F with
  | zero=>intro i s _ h; omega
  | succ F ih =>
    intro i s hi hF hb
    have eL:aU f (F+1) z v.items (v.items.length:Int) (i:Int) (zs s) v e0=iZ ad f aG (fun l0 l7 nj vj D1 D2=>aU f F l0 l7 nj vj D1 D2 e0) z v.items (v.items.length:Int) (i:Int) (zs s) v e0:=rfl
    rw[eL]
    unfold iZ
    simp only[Json.eta]
    by_cases h:i<v.items.length
    rotate_left
    · have h1:decide ((i:Int)<(v.items.length:Int))=false:=by simp; omega
      rw[h1,cond_false]
      have hd:v.items.drop i = []:=List.drop_eq_nil_of_le (by omega)
      have:zF v i = []:=by
        unfold zF
        rw[hd]
        split
        · cases v.names.drop i <;> rfl
        · rfl
      rw[this,List.append_nil]
    have h1:decide ((i:Int)<(v.items.length:Int))=true:=by simp; omega
    have h2:(decide ((0:Int)≤(i:Int))&&true)=true:=by simp
    have hw:IntKind.i64.wrap ((i:Int)+1)=((i+1:Nat):Int):=by rw[dD (by omega) (by omega)]; omega
    have hg:v.items.getD (i:Int).toNat (Ty.cn .json)=v.items[i]:=getD_at h _
    have hr:zF v i=(if i=0 then []else [44])++((if v.kind=7 then RI (v.names.getD i []) ++ [58]else [])++(oe v.items[i]++zF v (i+1))):=by
      unfold zF
      rw[List.drop_eq_getElem_cons h]
      by_cases UF:v.kind=7
      · rw[if_pos UF,if_pos UF,if_pos UF]
        have hn:=(h7 UF).1
        have hni:i<v.names.length:=by omega
        rw[List.drop_eq_getElem_cons hni]
        simp only[oB,List.headD_cons,List.tail_cons]
        have:v.names.getD i []=v.names[i]:=getD_at hni _
        rw[this]
        by_cases h0:i=0
        · subst h0; simp
        · have e1:(i==0)=false:=by simpa using h0
          have e2:(i+1==0)=false:=rfl
          rw[e1,e2]
          simp[h0]
      · rw[if_neg UF,if_neg UF,if_neg UF]
        simp only[pn]
        by_cases h0:i=0
        · subst h0; simp
        · have e1:(i==0)=false:=by simpa using h0
          have e2:(i+1==0)=false:=rfl
          rw[e1,e2]
          simp[h0]
    rw[hr]at hb ⊢
    rw[h1,cond_true,aT h2,hg,hw]
    -- from the name on
    have key:∀s':aj,(s'++((if v.kind=7 then RI (v.names.getD i []) ++ [58]else [])++(oe v.items[i]++zF v (i+1)))).length≤100000000000 →
        (bif (v.kind==7)then (cX (decide ((0:Int)≤(i:Int))&&decide ((i:Int)<(v.names.length:Int))) (aG (v.names.getD (i:Int).toNat (Ty.cn .str)) (zs s') (fun JA=>ad 58 JA (fun IY=>f v.items[i] IY (fun IZ=>aU f F z v.items (v.items.length:Int) ((i+1:Nat):Int) IZ v e0)))))else (f v.items[i] (zs s') (fun NJ=>aU f F z v.items (v.items.length:Int) ((i+1:Nat):Int) NJ v e0))) =
        e0 z (zs (s'++((if v.kind=7 then RI (v.names.getD i []) ++ [58]else [])++(oe v.items[i]++zF v (i+1))))):=by
      intro s' pA
      by_cases UF:v.kind=7
      · rw[if_pos UF]at pA ⊢
        have hk:(v.kind==7)=true:=by simpa using UF
        have hn:=(h7 UF).1
        have hni:i<v.names.length:=by omega
        have hgn:v.names.getD (i:Int).toNat (Ty.cn .str)=v.names.getD i []:=rfl
        have hgi:v.names.getD i []=v.names[i]:=getD_at hni _
        obtain ⟨UP,VE⟩:=(h7 UF).2 v.names[i] (List.getElem_mem hni)
        rw[hk,cond_true,aT (by simp; omega),hgn]
        rw[hgi]at pA ⊢
        have e58:((58:UInt8).toNat:Int)=58:=rfl
        simp only[List.length_append,List.length_cons,List.length_nil]at pA
        rw[wq _ _ UP VE (by rw[List.length_append]; omega),←e58,wb _ _ (by unfold Iv; rw[List.length_append]; omega),hf _ (List.getElem_mem h) _ _ (by simp only[List.length_append,List.length_cons,List.length_nil]; omega),
          ih (i+1) _ (by omega) (by omega) (by simp only[List.length_append,List.length_cons,List.length_nil]; omega)]
        simp only[List.append_assoc]
      · rw[if_neg UF]at pA ⊢
        have hk:(v.kind==7)=false:=by simpa using UF
        rw[List.nil_append]at pA ⊢
        simp only[List.length_append]at pA
        rw[hk,cond_false,hf _ (List.getElem_mem h) _ _ (by rw[List.length_append]; omega),ih (i+1) _ (by omega) (by omega) (by simp only[List.length_append]; omega)]
        simp only[List.append_assoc]
    by_cases h0:i=0
    · subst h0
      rw[if_pos rfl,List.nil_append]at hb ⊢
      exact key s hb
    · rw[if_neg h0]at hb ⊢
      have e3:decide ((i:Int)>0)=true:=by simp; omega
      have e44:((44:UInt8).toNat:Int)=44:=rfl
      have Nc:=hb
      simp only[List.length_append,List.length_cons,List.length_nil]at Nc
      rw[e3,cond_true,←e44,wb _ _ (by unfold Iv; omega)]
      have:=key (s ++ [44]) (by simp only[List.length_append,List.length_cons,List.length_nil]; omega)
      rw[List.append_assoc]at this
      exact this

theorem Hq:∀(ns:List aj) (seen:List aj),vU seen ns=true→∀t∈ns,jt t=true
  | [],_,_,t,h=>by cases h
  | n::ns,seen,h,t,ht=>by
    simp only[vU,Bool.and_eq_true]at h
    rcases List.mem_cons.1 ht with rfl|ht
    · exact h.1.2
    · exact Hq ns _ h.2 t ht

theorem write_N {R:Type}:∀(n:Nat) (v:Json) (d:Int),gB v d=true→KI v=true→v.depth<n→∀(s:aj) (k:List Int→Option R),(s++oe v).length≤100000000000→dy n v (zs s) k=k (zs (s++oe v)):=by
  intro n
  induction n with
  | zero=>intro v d _ _ h; omega
  | succ n ih =>
    intro v d hr hl hn s k hb
    obtain ⟨Hv,Ke,Vp,htx,Nt⟩:=BL.1 hl
    have e0:dy (n+1) v (zs s) k=wX bc ad af aG (aU (dy n)) v (zs s) k:=rfl
    rw[e0]
    have Ds:∀(z:aj) (e:aj→List Int→Option R) (F:Nat) (s':aj),(v.kind=7→v.names.length=v.items.length∧∀t∈v.names,jt t=true∧t.length≤10000000000)→jj v.items (d+1)=true→v.items.length<F→(s'++zF v 0).length≤100000000000 →
        aU (dy n) F z v.items (v.items.length:Int) 0 (zs s') v e=e z (zs (s'++zF v 0)):=fun z e F s' h7 hi hF pA =>
      MY (dy n) z v Ke h7 (fun x hx s k hb=>ih x (d+1) (Ho hi hx) (FA Vp hx) (by have:=FB hx; omega) s k hb) e F 0 s' (by omega) (by omega) pA
    cases pk.1 hr with
    | name kd _ hd hk =>
      rcases hk with rfl|rfl|rfl
      · show af oZ (zs s) (fun y3 y4=>k y4)=k (zs (s++oZ))
        exact ws oZ s (by decide) (by unfold Iv; rw[List.length_append]at hb; omega) _
      · show af ll (zs s) (fun y3 y4=>k y4)=k (zs (s++ll))
        exact ws ll s (by decide) (by unfold Iv; rw[List.length_append]at hb; omega) _
      · show af sc (zs s) (fun y3 y4=>k y4)=k (zs (s++sc))
        exact ws sc s (by decide) (by unfold Iv; rw[List.length_append]at hb; omega) _
    | num nm _ hd Qc =>
      have Nc:(s++B7 nm).length≤100000000000:=hb
      rw[List.length_append]at Nc
      show bc ⟨nm.aB,nm.exp⟩ (fun y9=>af y9 (zs s) (fun yf wc=>k wc))=k (zs (s++B7 nm))
      rw[OJ]
      exact ws (B7 nm) s (by omega) (by unfold Iv; omega) _
    | text t _ hd ht=>exact wq t s ht htx hb k
    | arr is _ hd hi =>
      have Nc:(s++(91::(pn is true ++ [93]))).length≤100000000000:=hb
      simp only[List.length_append,List.length_cons,List.length_nil]at Nc
      have e91:((91:UInt8).toNat:Int)=91:=rfl
      have e93:((93:UInt8).toNat:Int)=93:=rfl
      show ad ((91:UInt8).toNat:Int) (zs s) (fun Da=>aU (dy n) _ [91,93] is (is.length:Int) 0 Da ⟨6,⟨0,0⟩, [], [],is⟩ (fun Nf PN=>cX (decide ((1:Int)<(Nf.length:Int))) (ad ((Nf.getD 1 0).toNat:Int) PN (fun Ng=>k Ng))))=k (zs (s++(91::(pn is true ++ [93]))))
      rw[wb _ _ (by unfold Iv; omega)]
      simp only at Ds
      have hz:zF ⟨6,⟨0,0⟩, [], [],is⟩ 0=pn is true:=rfl
      rw[hz]at Ds
      rw[Ds _ _ _ _ (fun h=>by cases h) hi]
      rotate_left
      · simp only[List.length_cons,List.length_nil]; omega
      · simp only[List.length_append,List.length_cons,List.length_nil]; omega
      show ad ((93:UInt8).toNat:Int) (zs ((s ++ [91])++pn is true)) (fun Ng=>k Ng)=_
      rw[wb _ _ (by unfold Iv; simp only[List.length_append,List.length_cons,List.length_nil]; omega)]
      simp only[List.append_assoc,List.cons_append,List.nil_append]
    | obj ns is _ hd hlen hu hi =>
      have Nc:(s++(123::(oB ns is true ++ [125]))).length≤100000000000:=hb
      simp only[List.length_append,List.length_cons,List.length_nil]at Nc
      show ad ((123:UInt8).toNat:Int) (zs s) (fun Da=>aU (dy n) _ [123,125] is (is.length:Int) 0 Da ⟨7,⟨0,0⟩, [],ns,is⟩ (fun Nf PN=>cX (decide ((1:Int)<(Nf.length:Int))) (ad ((Nf.getD 1 0).toNat:Int) PN (fun Ng=>k Ng))))=k (zs (s++(123::(oB ns is true ++ [125]))))
      rw[wb _ _ (by unfold Iv; omega)]
      simp only at Ds
      have hz:zF ⟨7,⟨0,0⟩, [],ns,is⟩ 0=oB ns is true:=rfl
      rw[hz]at Ds
      rw[Ds _ _ _ _ (fun _=>⟨hlen,fun t ht=>⟨Hq ns [] hu t ht,Nt t ht⟩⟩) hi]
      rotate_left
      · simp only[List.length_cons,List.length_nil]; omega
      · simp only[List.length_append,List.length_cons,List.length_nil]; omega
      show ad ((125:UInt8).toNat:Int) (zs ((s ++ [123])++oB ns is true)) (fun Ng=>k Ng)=_
      rw[wb _ _ (by unfold Iv; simp only[List.length_append,List.length_cons,List.length_nil]; omega)]
      simp only[List.append_assoc,List.cons_append,List.nil_append]
theorem MZ {R:Type}:∀(F:Nat) (a:aj) (b:List Json) (c d:Int) (e:List Int) (f:Json) (g:aj→List Int→Option R),bl F a b c d e f g=aU bD F a b c d e f g:=by
  intro F
  induction F with
  | zero=>intros; rfl
  | succ F ih =>
    intro a b c d e f g
    have h1:bl (F+1) a b c d e f g=iZ ad bD aG (fun l0 l7 nj vj D1 D2=>bl F l0 l7 nj vj D1 D2 g) a b c d e f g:=rfl
    have h2:aU bD (F+1) a b c d e f g=iZ ad bD aG (fun l0 l7 nj vj D1 D2=>aU bD F l0 l7 nj vj D1 D2 g) a b c d e f g:=rfl
    rw[h1,h2]
    simp only[ih]

theorem TH {R:Type} (v:Json) (hr:gB v 1=true) (hl:KI v=true) (hb:(oe v).length≤100000000000) (k:aj→Option R):ew v k=k (oe v):=by
  have e0:ew v k=AS cG fc v k:=rfl
  rw[e0]
  unfold AS
  simp only[Json.eta]
  rw[MP v hl,hr,Bool.not_true,cond_false]
  have e1:fc v (fun y3=>k (sD y3))=w3 bc ah ad ag da bl v (fun y3=>k (sD y3)):=rfl
  rw[e1]
  obtain ⟨Hv,Ke,Vp,htx,Nt⟩:=BL.1 hl
  have Ds:∀(z:aj) (e:aj→List Int→Option R) (F:Nat) (s':aj),(v.kind=7→v.names.length=v.items.length∧∀t∈v.names,jt t=true∧t.length≤10000000000)→jj v.items (1+1)=true→v.items.length<F→(s'++zF v 0).length≤100000000000 →
      aU bD F z v.items (v.items.length:Int) 0 (zs s') v e=e z (zs (s'++zF v 0)):=fun z e F s' h7 hi hF pA =>
    MY bD z v Ke h7 (fun x hx s k hb=>write_N (x.depth+2) x (1+1) (Ho hi hx) (FA Vp hx) (by omega) s k hb) e F 0 s' (by omega) (by omega) pA
  cases pk.1 hr with
  | name kd _ hd hk =>
    rcases hk with rfl|rfl|rfl
    · show ag oZ (fun y3 y4=>k (sD y4))=k oZ
      rw[wsn oZ (by decide),tu]
    · show ag ll (fun y3 y4=>k (sD y4))=k ll
      rw[wsn ll (by decide),tu]
    · show ag sc (fun y3 y4=>k (sD y4))=k sc
      rw[wsn sc (by decide),tu]
  | num nm _ hd Qc =>
    have Nc:(B7 nm).length≤100000000000:=hb
    show bc ⟨nm.aB,nm.exp⟩ (fun y9=>ag y9 (fun yf wc=>k (sD wc)))=k (B7 nm)
    rw[OJ]
    show ag (B7 nm) (fun yf wc=>k (sD wc))=k (B7 nm)
    rw[wsn _ Nc,tu]
  | text t _ hd ht =>
    have Nc:(RI t).length≤100000000000:=hb
    show bS t (fun y2 y3=>ag y2 (fun y4 y5=>k (sD y5)))=k (RI t)
    obtain ⟨rs,Xh,hc,rfl,_,hq⟩|⟨h,_⟩:=OC (R:=R) t htx
    · rw[hq,K6 Xh]
      rw[K6 Xh]at Nc
      show ag (qt rs) (fun y4 y5=>k (sD y5))=k (qt rs)
      rw[wsn _ Nc,tu]
    · rw[ht]at h; cases h
  | arr is _ hd hi =>
      have Nc:(91::(pn is true ++ [93]):aj).length≤100000000000:=hb
      simp only[List.length_append,List.length_cons,List.length_nil]at Nc
      show bl _ [91,93] is (is.length:Int) 0 (zs ([] ++ [91])) ⟨6,⟨0,0⟩, [], [],is⟩ (fun NJ Nf=>cX (decide ((1:Int)<(NJ.length:Int))) (ad ((NJ.getD 1 0).toNat:Int) Nf (fun PN=>k (sD PN))))=k (91::(pn is true ++ [93]))
      simp only at Ds
      have hz:zF ⟨6,⟨0,0⟩, [], [],is⟩ 0=pn is true:=rfl
      rw[hz]at Ds
      rw[MZ,Ds _ _ _ _ (fun h=>by cases h) hi]
      rotate_left
      · simp only[List.length_cons,List.length_nil]; omega
      · simp only[List.length_append,List.length_cons,List.length_nil]; omega
      show ad ((93:UInt8).toNat:Int) (zs (([] ++ [91])++pn is true)) (fun Ng=>k (sD Ng))=_
      rw[wb _ _ (by unfold Iv; simp only[List.length_append,List.length_cons,List.length_nil]; omega),tu]
      simp only[List.append_assoc,List.cons_append,List.nil_append]
  | obj ns is _ hd hlen hu hi =>
      have Nc:(123::(oB ns is true ++ [125]):aj).length≤100000000000:=hb
      simp only[List.length_append,List.length_cons,List.length_nil]at Nc
      show bl _ [123,125] is (is.length:Int) 0 (zs ([] ++ [123])) ⟨7,⟨0,0⟩, [],ns,is⟩ (fun NJ Nf=>cX (decide ((1:Int)<(NJ.length:Int))) (ad ((NJ.getD 1 0).toNat:Int) Nf (fun PN=>k (sD PN))))=k (123::(oB ns is true ++ [125]))
      simp only at Ds
      have hz:zF ⟨7,⟨0,0⟩, [],ns,is⟩ 0=oB ns is true:=rfl
      rw[hz]at Ds
      rw[MZ,Ds _ _ _ _ (fun _=>⟨hlen,fun t ht=>⟨Hq ns [] hu t ht,Nt t ht⟩⟩) hi]
      rotate_left
      · simp only[List.length_cons,List.length_nil]; omega
      · simp only[List.length_append,List.length_cons,List.length_nil]; omega
      show ad ((125:UInt8).toNat:Int) (zs (([] ++ [123])++oB ns is true)) (fun Ng=>k (sD Ng))=_
      rw[wb _ _ (by unfold Iv; simp only[List.length_append,List.length_cons,List.length_nil]; omega),tu]
      simp only[List.append_assoc,List.cons_append,List.nil_append]

end Go.Proofs.YtmlkkgfenfdndaaGreatDoor

namespace Go.ay
open Go.RowKit Go.Proofs.YtmlkkgfenfdndaaGreatDoor Go.ChangeShapes Go.WideShapes

mutual
inductive Wt:Nat→V→Prop where
  | int {n:Nat} {k:IntKind} {z:Int} (h1:1≤n) (h:k.has z):Wt n (.int k z)
  | bool {n:Nat} (h1:1≤n) (b:Bool):Wt n (.bool b)
  | str {n:Nat} {s:aj} (h:s.length+1≤n):Wt n (.str s)
  | sl {n m:Nat} {T:Ty} {l:List T.den} (h:m+1≤n) (he:RU m (l.map T.cells)):Wt n (.sl T l .no)
inductive Ni:Nat→List V→Prop where
  | nil:Ni 0 []
  | cons {a b:Nat} {v:V} {vs:List V} (h:Wt a v) (t:Ni b vs):Ni (a+b) (v::vs)
inductive RU:Nat→List (List V)→Prop where
  | nil:RU 0 []
  | cons {a b:Nat} {v:List V} {vs:List (List V)} (h:Ni a v) (t:RU b vs):RU (a+b) (v::vs)
end

theorem Ni.append:∀ {x y:List V} {a b:Nat},Ni a x→Ni b y→Ni (a+b) (x++y)
  | [],_,_,_, .nil,h=>by rw[Nat.zero_add]; exact h
  | v::x,y,_,b, .cons (a:=p) (b:=q) h t,h'=>by
    rw[Nat.add_assoc]
    exact .cons h (Ni.append t h')
theorem Wt.one {p:eY} {x:p.den} {n:Nat} (h:Wt n (p.enc x)):Ni n [p.enc x] := .cons (b:=0) h .nil

section
variable {H:Type} {enc:TypeId × Value→H} {P:Program} {tt:dJ} {w:World} {spare:Nat→Bool} {held:Bool}

def qq (w:World) (N:Nat) (ls:List eY) (cs:List Value):Prop:=∃vs n,Co ls vs∧cH w [] L9 vs cs∧Ni n vs∧n≤N
theorem qq.append {N M:Nat} {a b:List eY} {x y:List Value} (h:qq w N a x) (k:qq w M b y):qq w (N+M) (a++b) (x++y):=by
  obtain ⟨u,n,h1,h2,h3,h4⟩:=h
  obtain ⟨v,m,k1,k2,k3,k4⟩:=k
  exact ⟨u++v,n+m,h1.append k1,h2.append k2,h3.append k3,by omega⟩
theorem qq.nil {N:Nat}:qq w N [] []:=⟨[],0, .nil, .nil, .nil,Nat.zero_le _⟩
theorem qq.one {N:Nat} {p:eY} {x:p.den} {d:Value} (h:dC w [] L9 (p.enc x) d) (s:Wt N (p.enc x)):qq w N [p] [d] :=
  ⟨[p.enc x],N, .one p x, .cons h .nil,Wt.one s,Nat.le_refl _⟩
theorem qq.le {N M:Nat} {ls:List eY} {cs:List Value} (h:qq w N ls cs) (hm:N≤M):qq w M ls cs:=by
  obtain ⟨u,n,h1,h2,h3,h4⟩:=h
  exact ⟨u,n,h1,h2,h3,by omega⟩
theorem UG {T:Ty}:∀(l:List T.den) (es:List (DataW H)),l.length=es.length→(∀(i:Nat) (y:T.den) (e:DataW H),l[i]? = some y→es[i]? = some e→∃n,Ni n (T.cells y)∧n≤Rows.uptoBulk e)→∃m,RU m (l.map T.cells)∧m≤Rows.uptoBulkAll es
  | [],es,_,_=>⟨0, .nil,Nat.zero_le _⟩
  | y::l, [],h,_=>by cases h
  | y::l,e::es,h,hh=>by
    obtain ⟨n,h1,h2⟩:=hh 0 y e rfl rfl
    obtain ⟨m,h3,h4⟩:=UG l es (by simpa using h) fun i y e hy he=>hh (i+1) y e hy he
    exact ⟨n+m, .cons h1 h3,by simp only[Rows.uptoBulkAll]; omega⟩

theorem IS {n m:Nat} (ih:∀(t:TypeId) (cs:List Value) (x:DataW H × List MemPlace) (ls:List eY),DataW.trod enc P w 0 spare held n t cs=some x→nY P tt m t=some ls→Rows.uptoBulk x.1≤mx→qq w (Rows.uptoBulk x.1) ls cs) (cs:List Value) :
    ∀(fs:List Field) (j:Nat) (xs:List (DataW H × List MemPlace)) (ls:List eY),(fs.mapM fun f=>DataW.trod enc P w 0 spare held n f.type ((cs.drop f.offset).take (P.cellsOf f.type)))=some xs →
      E7 P (nY P tt m) fs j cs.length=some ls→Rows.uptoBulkAll (xs.map (·.1))≤mx→qq w (Rows.uptoBulkAll (xs.map (·.1))) ls (cs.drop j)
  | [],j,xs,ls,_,hl,_=>by
    unfold E7 at hl
    split at hl
    · rename_i hj
      cases hl
      rw[List.drop_eq_nil_of_le (by omega)]
      exact .nil
    · cases hl
  | f::fs,j,xs,ls,hx,hl,hb=>by
    simp only[List.mapM_cons,Option.pure_def,Option.bind_eq_bind,Option.bind_eq_some_iff]at hx
    obtain ⟨y,hy,ys,hys,e⟩:=hx
    cases e
    simp only[List.map_cons,Rows.uptoBulkAll]at hb
    unfold E7 at hl
    split at hl
    · rename_i ho
      split at hl
      · rename_i a ha
        split at hl
        · rename_i qs
          split at hl
          · rename_i b pA
            cases hl
            rw[ho]at hy
            have r1:=ih _ _ _ _ hy ha (by omega)
            have r2:=IS ih cs fs (j+a.length) ys b hys pA (by omega)
            have e:cs.drop j=(cs.drop j).take (P.cellsOf f.type)++cs.drop (j+a.length):=by
              rw[←qs,←List.drop_drop]
              exact (List.take_append_drop a.length (cs.drop j)).symm
            rw[e]
            exact r1.append r2
          · cases hl
        · cases hl
      · cases hl
    · cases hl

theorem OR {n m:Nat} {e:TypeId} (ih:∀(t:TypeId) (cs:List Value) (x:DataW H × List MemPlace) (ls:List eY),DataW.trod enc P w 0 spare held n t cs=some x→nY P tt m t=some ls→Rows.uptoBulk x.1≤mx→qq w (Rows.uptoBulk x.1) ls cs) (cs:List Value) {a:List eY} (ha:nY P tt m e=some a) :
    ∀(k i:Nat) (ls:List eY) (es:List (DataW H)),es.length=k→(∀q y,es[q]? = some y→∃x,DataW.trod enc P w 0 spare held n e ((cs.drop ((i+q)*P.cellsOf e)).take (P.cellsOf e))=some x∧x.1=y)→Rows.uptoBulkAll es≤mx →
      yb (some a) (P.cellsOf e) k (i*P.cellsOf e) cs.length=some ls→qq w (Rows.uptoBulkAll es) ls (cs.drop (i*P.cellsOf e))
  | 0,i,ls,es,_,_,_,hl=>by
    unfold yb at hl
    split at hl
    · rename_i hj
      cases hl
      rw[List.drop_eq_nil_of_le (by omega)]
      exact .nil
    · cases hl
  | k+1,i,ls, [],h0,hx,hbm,hl=>by cases h0
  | k+1,i,ls,y0::es,h0,hx,hbm,hl=>by
    unfold yb at hl
    simp only at hl
    split at hl
    · rename_i qs
      split at hl
      · rename_i b pA
        cases hl
        obtain ⟨x,h1,rfl⟩:=hx 0 y0 rfl
        simp only[Rows.uptoBulkAll]at hbm ⊢
        have r1:=ih _ _ _ _ h1 ha (by omega)
        rw[qs]at pA
        have e1:i*P.cellsOf e+P.cellsOf e=(i+1)*P.cellsOf e:=by rw[Nat.add_mul]; omega
        rw[e1]at pA
        have r2:=OR ih cs ha k (i+1) b es (by simpa using h0) (fun q y hq=>by
          have:=hx (q+1) y hq
          rw[show i+(q+1)=i+1+q by omega]at this
          exact this) (by omega) pA
        have e:cs.drop (i*P.cellsOf e)=(cs.drop (i*P.cellsOf e)).take (P.cellsOf e)++cs.drop ((i+1)*P.cellsOf e):=by
          rw[←e1,←List.drop_drop]
          exact (List.take_append_drop _ _).symm
        rw[e]
        exact r1.append r2
      · cases hl
    · cases hl

theorem Hr (ze:HZ P tt):∀(n:Nat) (t:TypeId) (cs:List Value) (x:DataW H × List MemPlace) (m:Nat) (ls:List eY),DataW.trod enc P w 0 spare held n t cs=some x→nY P tt m t=some ls →
    Rows.uptoBulk x.1≤mx→qq w (Rows.uptoBulk x.1) ls cs
  | 0,_,_,_,_,_,h,_,_=>by simp[DataW.trod]at h
  | n+1,t,cs,x,0,ls,_,hl,_=>by simp[nY]at hl
  | n+1,t,cs,x,m+1,ls,h,hl,hb=>by
    have ih:∀(t:TypeId) (cs:List Value) (x:DataW H × List MemPlace) (ls:List eY),DataW.trod enc P w 0 spare held n t cs=some x→nY P tt m t=some ls→Rows.uptoBulk x.1≤mx→qq w (Rows.uptoBulk x.1) ls cs :=
      fun t cs x ls h1 h2 h3=>Hr ze n t cs x m ls h1 h2 h3
    have ih8:∀(t:TypeId) (cs:List Value) (x:DataW H × List MemPlace) (ls:List eY),DataW.trod enc P w 0 spare held n t cs=some x→nY P tt 8 t=some ls→Rows.uptoBulk x.1≤mx→qq w (Rows.uptoBulk x.1) ls cs :=
      fun t cs x ls h1 h2 h3=>Hr ze n t cs x 8 ls h1 h2 h3
    unfold nY at hl
    unfold DataW.trod at h
    cases hu:P.underlying t with
    | none=>rw[hu]at hl; cases hl
    | some u =>
      rw[hu]at hl h
      cases u <;> simp only at hl <;> try (first|cases hl)
      case some.bool.refl =>
        rcases cs with _|⟨c,_|⟨c2,r⟩⟩
        · simp at h
        · cases c <;> simp at h
          exact .one (p := .bool) (.bool _) (.bool (H0 _) _)
        · simp at h
      case some.int.refl k =>
        rcases cs with _|⟨c,_|⟨c2,r⟩⟩
        · simp at h
        · cases c <;> simp at h
          rename_i k' z
          obtain ⟨⟨rfl,hw⟩,_⟩:=h
          have hk:IntKind.has k' z:=by
            simp only[Lit.wf,Bool.and_eq_true,decide_eq_true_eq]at hw
            exact hw
          exact .one (p := .int k') (x:=z) (.int hk) (.int (H0 _) hk)
        · simp at h
      case some.string.refl =>
        rcases cs with _|⟨c,_|⟨c2,r⟩⟩
        · simp at h
        · cases c <;> simp at h
          rename_i s
          obtain ⟨hs,rfl⟩:=h
          have pA:s.data.toList.length+1≤mx:=by simp only[Rows.uptoBulk]at hb; omega
          have qs:s.size≤mx:=by
            have e:s.data.toList.length=s.size:=by rw[Array.length_toList]; rfl
            omega
          exact .one (p := .str) (x:=s.data.toList) (.str qs) (.str (by simp only[Rows.uptoBulk]; omega))
        · simp at h
      case some.slice e =>
        split at hl <;> try (first|cases hl)
        rename_i T hT
        split at hl <;> try (first|cases hl)
        rename_i qs
        rcases cs with _|⟨c,_|⟨c2,r⟩⟩
        · simp at h
        · cases c <;> try (simp at h; done)
          rename_i A len cap
          cases A with
          | none =>
            have h0:len=0∧cap=0:=by
              split at h <;> simp_all
            obtain ⟨rfl,rfl⟩:=h0
            refine .one (p := .sl T) (x := []) ?_ (.sl (m:=0) (H0 _) .nil)
            exact dC.sl (T:=T) (l := []) (t := .no) (A:=none) (cap:=0) (fun _ _=>undef) (Nat.le_refl _) (Nat.zero_le _) (fun i j hi=>by simp at hi) (fun i j x v hx=>by simp at hx) (by simp) (by simp)
          | some a =>
            simp only[Nat.zero_le,true_and]at h
            split at h <;> try (first|cases h)
            rename_i hc
            simp only[Option.bind_eq_some_iff,Option.map_eq_some_iff]at h
            obtain ⟨elems,he,rest,hr,rfl⟩:=h
            obtain ⟨g1,g2⟩:=H2 he
            simp only[List.length_range]at g1
            simp only[Rows.uptoBulk]at hb
            have hlen:len≤mx:=by
              have:=Yu (elems.map (·.1))
              simp only[List.length_map]at this
              omega
            have key:∀i,i<len→∃y:T.den,∃ds:List Value,w.cells? 0 (a.add (i*P.cellsOf e)) (P.cellsOf e)=some ds∧cH w [] L9 (T.cells y) ds∧∃n,Ni n (T.cells y)∧∀z,elems[i]? = some z→n≤Rows.uptoBulk z.1:=by
              intro i hi
              obtain ⟨z,hz,hz2⟩:=g2 i i (by simp[hi])
              simp only[Option.bind_eq_some_iff]at hz2
              obtain ⟨ds,hd1,Xd⟩:=hz2
              have hmem:z.1∈elems.map (·.1):=List.mem_map.2 ⟨z,List.mem_of_getElem? hz,rfl⟩
              obtain ⟨vs,nw,⟨q,rfl⟩,k2,k3,k4⟩:=ih8 _ _ _ _ Xd (ze e T hT) (by have:=VP hmem; omega)
              obtain ⟨y,hy⟩:=HY T q
              rw[←hy]at k2 k3
              exact ⟨y,ds,hd1,k2,nw,k3,fun z' hz'=>by rw[hz]at hz'; cases hz'; exact k4⟩
            obtain ⟨l,hl1,P8⟩:=Uh _ len key
            obtain ⟨mm,hm1,hm2⟩:=UG l (elems.map (·.1)) (by simp; omega) fun i y e hy he=>by
              obtain ⟨_,_,_,nn,hn1,hn2⟩:=P8 i y hy
              rw[List.getElem?_map]at he
              obtain ⟨z,hz,rfl⟩:=Option.map_eq_some_iff.1 he
              exact ⟨nn,hn1,hn2 z hz⟩
            refine .one (p := .sl T) (x:=l) ?_ (.sl (m:=mm) (by simp only[Rows.uptoBulk]; omega) hm1)
            · have hv:(Value.slice (some a) len cap) = .slice (some a) l.length cap:=by rw[hl1]
              rw[hv]
              refine dC.sl (fun i j=>(w.cell? ((a.add (i*T.sz)).add j)).getD undef) (by omega) (Nat.le_trans hc.2 (Nat.le_of_ble_eq_true rfl)) (fun i j hi hj => ?_) (fun i j y v hy hv => ?_) (by simp) (by simp)
              · obtain ⟨y,hy⟩:∃y,l[i]? = some y:=⟨l[i],by simp[hi]⟩
                obtain ⟨ds,d1,d2,_⟩:=P8 i y hy
                rw[qs]at d1
                obtain ⟨c1,c2⟩:=G7 d1
                obtain ⟨v,v1,v2⟩:=c2 j hj
                have ea:a=⟨a.block,a.off,none⟩:=by
                  have hs0:a.spot=none:=by
                    obtain ⟨y0,hy0⟩:∃y,l[0]? = some y:=⟨l[0],by simp⟩
                    obtain ⟨ds0,d01,_,_⟩:=P8 0 y0 hy0
                    rw[qs]at d01
                    obtain ⟨_,c02⟩:=G7 d01
                    obtain ⟨v0,_,v02⟩:=c02 0 (Ty.DB T)
                    simp only[Nat.zero_mul,Addr.add,if_true]at v02
                    exact VQ v02
                  cases a; simp_all
                refine ⟨a.block,a.off,by rw[←ea],?_,free0 _ _⟩
                have e2:=addr_add (a:=a) (by rw[ea]) (i*T.sz) j
                rw[e2,v2]; rfl
              · have hi:i<l.length:=(List.getElem?_eq_some_iff.1 hy).1
                obtain ⟨ds,d1,d2,_⟩:=P8 i y hy
                rw[qs]at d1
                obtain ⟨c1,c2⟩:=G7 d1
                have hj:j<T.sz:=by rw[←T.lD y]; exact (List.getElem?_eq_some_iff.1 hv).1
                obtain ⟨u,v1,v2⟩:=c2 j hj
                rw[v2]
                exact d2.2 j v u hv v1
        · simp at h
      case some.struct fs =>
        simp only at h
        split at h
        · rename_i BU
          simp only[Option.map_eq_some_iff]at h
          obtain ⟨xs,hx,rfl⟩:=h
          simp only[Rows.uptoBulk]at hb
          rw[←BU]at hl
          have:=IS ih cs fs.toList 0 xs ls hx hl (by omega)
          exact qq.le (by simpa using this) (by simp only[Rows.uptoBulk]; omega)
        · cases h
      case some.array k e =>
        simp only at h
        split at h
        · rename_i BU
          simp only[Option.map_eq_some_iff]at h
          obtain ⟨xs,hx,rfl⟩:=h
          simp only[Rows.uptoBulk]at hb
          rw[←BU]at hl
          obtain ⟨g1,g2⟩:=H2 hx
          cases ha:nY P tt m e with
          | none =>
            rw[ha]at hl
            cases k with
            | zero =>
              unfold yb at hl
              split at hl
              · rename_i hj
                cases hl
                have:cs = []:=List.eq_nil_of_length_eq_zero hj.symm
                subst this
                exact .nil
              · cases hl
            | succ k=>simp[yb]at hl
          | some a =>
            rw[ha]at hl
            have:=OR ih cs ha k 0 ls (xs.map (·.1)) (by simpa using g1) (fun q y hy=>by
              rw[List.getElem?_map]at hy
              obtain ⟨z,hz,rfl⟩:=Option.map_eq_some_iff.1 hy
              have hq:q<k:=by
                have:=(List.getElem?_eq_some_iff.1 hz).1
                simp at g1
                omega
              obtain ⟨y2,hy1,hy2⟩:=g2 q q (by simp[hq])
              rw[hz]at hy1
              cases hy1
              exact ⟨z,by rw[Nat.zero_add]; exact hy2,rfl⟩) (by omega) (by simpa using hl)
            exact qq.le (by simpa using this) (by simp only[Rows.uptoBulk]; omega)
        · cases h

theorem ZO {N:Nat} (ze:HZ P tt) {t:TypeId} {v:Value} {d:DataW H} {ps:List MemPlace} {T:Ty} {base:Nat} (ho:Uj P t=true) (hl:nY P tt 8 t=some T.leaves) (G9:Value.okWide P w .any base t v)
    (h:DataW.Trod enc P w 0 spare held t v d ps) (hb:Rows.uptoBulk d≤N) (hN:N≤mx):∃x:T.den,dC w [] L9 (.agg (T.cells x)) v∧∃n,Ni n (T.cells x)∧n≤N:=by
  obtain ⟨n,h⟩:=h
  obtain ⟨vs,nw,⟨x,rfl⟩,h2,h3,h4⟩:=Hr ze n t _ _ 8 _ h hl (Nat.le_trans hb hN)
  obtain ⟨y,hy⟩:=HY T x
  rw[←hy]at h2 h3
  have hc:∃cs,v = .agg cs:=by
    unfold Uj at ho
    unfold Value.okWide at G9
    cases hu:P.underlying t with
    | none=>rw[hu]at ho; cases ho
    | some u =>
      rw[hu]at ho G9
      cases u <;> simp only at ho <;> try (first|cases ho) <;> (obtain ⟨cs,hc,_⟩:=G9; exact ⟨cs,hc⟩)
  obtain ⟨cs,rfl⟩:=hc
  exact ⟨y, .agg (by have:=h2.1; simpa [Value.cells]using this) fun j v d hv hd=>h2.2 j v d hv (by simpa [Value.cells]using hd),nw,h3,Nat.le_trans h4 hb⟩
end
end Go.ay

/-
  Functions of the program as pure Lean functions, and the ties; printed by wip/tools/emit.py.
-/
set_option maxRecDepth 100000
namespace Go.Proofs.YtmlkkgfenfdndaaGreatDoor
open Go Go.ay

/-! ### humpyard/humpyardlaw04.Fit -/
abbrev dv (R:Type):Type:=Raw→Int→(Json→Option R)→Option R
abbrev o5:List bP := [.agg [.int .i64, .int .i64, .int .i64, .sl (.int .i64), .sl .raw], .leaf (.int .i64)]
abbrev o6:List aI := []
noncomputable def lB {R:Type} (fn:dv R):bP.av o5→aI.av o6→(V→az→Option R)→Option R:=fun x y k=>fn (⟨x.1.1,x.1.2.1,x.1.2.2.1,x.1.2.2.2.1,x.1.2.2.2.2.1⟩:Raw) x.2.1 (fun q0=>k (.agg [.int .i64 q0.kind, .int .i64 q0.num.aB, .int .i64 q0.num.exp, .str q0.text, .sl .str q0.names .no, .sl .json q0.items .no]) [])
abbrev jJ (R:Type):Type:=Nat→Int→Int→Int→aj→Bool→Int→Raw→Int→Int→Int→aj→Int→Int→Int→aj→(List aj)→(List Json)→Raw→(Int→Int→Int→aj→Bool→Raw→Int→Int→Int→aj→Int→Int→Int→aj→(List aj)→(List Json)→Raw→Option R)→Option R
abbrev lC (R:Type):Type:=Nat→Int→Int→Int→Raw→Int→Int→Int→aj→Int→Int→Int→aj→(List aj)→(List Json)→(Int→Int→Int→aj→Int→Int→Int→aj→(List aj)→(List Json)→Option R)→Option R
noncomputable def nO (R:Type) (bZ:iP R) (di:mi R) (aJ:dv R) (eT:o9 R):Env R:=fun i=>match i with
  | 37=>some (true,(aA wH wI (CF bZ) bg))
  | 28=>some (true,(aA zh zi (DQ di) bg))
  | 16=>some (true,(aA o5 o6 (lB aJ) bg))
  | 35=>some (true,(aA Az AA (Gu eT) bg))
  | _=>none
theorem NV (R:Type) (aJ:dv R) (CQ:ay.Spec.Ok Tryz.prog 16 (aA o5 o6 (lB aJ) bg)):pK Tryz.prog (nO R bZ di aJ eT):=by
  intro i b sp h
  unfold nO at h
  split at h
  · cases h; exact ⟨(Ei R _ (aO _)),fun h=>nomatch h⟩
  · cases h; exact ⟨(Fb R _ (aO _)),fun h=>nomatch h⟩
  · cases h; exact ⟨CQ,fun h=>nomatch h⟩
  · cases h; exact ⟨(Km R _ (aO _)),fun h=>nomatch h⟩
  · cases h

noncomputable def tA {R:Type} (fT:Int→Int→Int→aj→Bool→Int→Raw→Int→Int→Int→aj→Int→Int→Int→aj→(List aj)→(List Json)→Raw→Option R) (x23:Int) (WW:Int) (WX:Int) (Qb:aj) (x27:Bool) (x28:Int) (Iw:Raw) (Us:Int) (x31:Int) (x32:Int) (x33:aj) (x34:Int) (x35:Int) (x36:Int) (x37:aj) (x38:List aj) (x39:List Json) (TJ:Raw) (e0:Int→Int→Int→aj→Bool→Raw→Int→Int→Int→aj→Int→Int→Int→aj→(List aj)→(List Json)→Raw→Option R):Option R :=
  bif (decide (x28<(x38.length:Int)))then (bif x27 then (fT x23 WW WX Qb true (IntKind.i64.wrap (x28+1)) (⟨Iw.kind,Iw.aB,Iw.exp,Iw.text,Iw.items⟩:Raw) Us x31 x32 x33 x34 x35 x36 x37 x38 x39 (⟨TJ.kind,TJ.aB,TJ.exp,TJ.text,TJ.items⟩:Raw))else (cX (decide ((0:Int)≤x28)&&decide (x28<x38.length)) (fT x23 WW WX Qb ((x38.getD x28.toNat (Ty.cn .str))==Qb) (IntKind.i64.wrap (x28+1)) (⟨Iw.kind,Iw.aB,Iw.exp,Iw.text,Iw.items⟩:Raw) Us x31 x32 x33 x34 x35 x36 x37 x38 x39 (⟨TJ.kind,TJ.aB,TJ.exp,TJ.text,TJ.items⟩:Raw))))else (e0 x23 WW WX Qb x27 (⟨Iw.kind,Iw.aB,Iw.exp,Iw.text,Iw.items⟩:Raw) Us x31 x32 x33 x34 x35 x36 x37 x38 x39 (⟨TJ.kind,TJ.aB,TJ.exp,TJ.text,TJ.items⟩:Raw))
noncomputable def bA {R:Type}:jJ R
  | 0,_,_,_,_,_,_,_,_,_,_,_,_,_,_,_,_,_,_,_=>none
  | n+1,l0,l7,nj,vj,D1,D2,KA,KB,KC,KD,zT,FC,M0,M1,ZP,ZQ,ZR,ZS,e0=>tA (fun l0 l7 nj vj D1 D2 KA KB KC KD zT FC M0 M1 ZP ZQ ZR ZS=>bA n l0 l7 nj vj D1 D2 KA KB KC KD zT FC M0 M1 ZP ZQ ZR ZS e0) l0 l7 nj vj D1 D2 KA KB KC KD zT FC M0 M1 ZP ZQ ZR ZS e0
noncomputable def tB:Hint := { live := [1,2,4,5,6,7,8,9,10,11],own := [],rows := [],cells := [],drop := [],out := [1,2,4,5,6,7,8,9,10] }
abbrev kC:Type:=Int × Int × Int × aj × Bool × Int × Raw × Int × Int × Int × aj × Int × Int × Int × aj × (List aj) × (List Json) × Raw
noncomputable def qQ:kC→St:=fun d=>⟨[.undef, .int .i64 d.1, .ptr 0 0, .undef, .ptr 1 0, .int .i64 d.2.1, .ptr 2 0, .int .i64 d.2.2.1, .ptr 3 0, .str d.2.2.2.1, .bool d.2.2.2.2.1, .int .i64 d.2.2.2.2.2.1, .undef, .undef, .undef, .undef, .undef, .undef, .undef, .undef, .undef, .undef, .undef, .undef, .undef, .undef, .undef, .undef, .undef, .undef, .undef, .undef, .undef, .undef, .undef, .undef, .undef, .undef, .undef, .undef, .undef, .undef, .undef, .undef, .undef, .undef, .undef, .undef, .undef, .undef, .undef, .undef, .undef, .undef, .undef, .undef, .undef, .undef, .undef, .undef, .undef, .undef, .undef, .undef, .undef, .undef, .undef, .undef, .undef, .undef, .undef, .undef, .undef, .undef, .undef, .undef, .undef, .undef, .undef, .undef, .undef, .undef, .undef, .undef, .undef, .undef, .undef, .undef, .undef, .undef, .undef, .undef, .undef, .undef, .undef, .undef, .undef, .undef, .undef, .undef, .undef, .undef, .undef, .undef, .undef], [.cells [.int .i64 d.2.2.2.2.2.2.1.kind, .int .i64 d.2.2.2.2.2.2.1.aB, .int .i64 d.2.2.2.2.2.2.1.exp, .sl (.int .i64) d.2.2.2.2.2.2.1.text .no, .sl .raw d.2.2.2.2.2.2.1.items .no], .cells [.int .i64 d.2.2.2.2.2.2.2.1, .int .i64 d.2.2.2.2.2.2.2.2.1, .int .i64 d.2.2.2.2.2.2.2.2.2.1, .str d.2.2.2.2.2.2.2.2.2.2.1, .cF, .cF], .cells [.int .i64 d.2.2.2.2.2.2.2.2.2.2.2.1, .int .i64 d.2.2.2.2.2.2.2.2.2.2.2.2.1, .int .i64 d.2.2.2.2.2.2.2.2.2.2.2.2.2.1, .str d.2.2.2.2.2.2.2.2.2.2.2.2.2.2.1, .sl .str d.2.2.2.2.2.2.2.2.2.2.2.2.2.2.2.1 (.own 4), .sl .json d.2.2.2.2.2.2.2.2.2.2.2.2.2.2.2.2.1 (.own 5)], .cells [.int .i64 d.2.2.2.2.2.2.2.2.2.2.2.2.2.2.2.2.2.kind, .int .i64 d.2.2.2.2.2.2.2.2.2.2.2.2.2.2.2.2.2.aB, .int .i64 d.2.2.2.2.2.2.2.2.2.2.2.2.2.2.2.2.2.exp, .sl (.int .i64) d.2.2.2.2.2.2.2.2.2.2.2.2.2.2.2.2.2.text .no, .sl .raw d.2.2.2.2.2.2.2.2.2.2.2.2.2.2.2.2.2.items .no], .tok, .tok]⟩
noncomputable def xr {R:Type} (K:Ex→St→Option R) (q0:Int) (q1:Int) (q2:Int) (q3:aj) (q4:Bool) (q5:Raw) (q6:Int) (q7:Int) (q8:Int) (q9:aj) (MR:Int) (q11:Int) (q12:Int) (q13:aj) (q14:List aj) (q15:List Json) (q16:Raw):Option R:=K (.exit 3) ⟨[.undef, .int .i64 q0, .ptr 0 0, .undef, .ptr 1 0, .int .i64 q1, .ptr 2 0, .int .i64 q2, .ptr 3 0, .str q3, .bool q4, .undef, .undef, .undef, .undef, .undef, .undef, .undef, .undef, .undef, .undef, .undef, .undef, .undef, .undef, .undef, .undef, .undef, .undef, .undef, .undef, .undef, .undef, .undef, .undef, .undef, .undef, .undef, .undef, .undef, .undef, .undef, .undef, .undef, .undef, .undef, .undef, .undef, .undef, .undef, .undef, .undef, .undef, .undef, .undef, .undef, .undef, .undef, .undef, .undef, .undef, .undef, .undef, .undef, .undef, .undef, .undef, .undef, .undef, .undef, .undef, .undef, .undef, .undef, .undef, .undef, .undef, .undef, .undef, .undef, .undef, .undef, .undef, .undef, .undef, .undef, .undef, .undef, .undef, .undef, .undef, .undef, .undef, .undef, .undef, .undef, .undef, .undef, .undef, .undef, .undef, .undef, .undef, .undef, .undef], [.cells [.int .i64 q5.kind, .int .i64 q5.aB, .int .i64 q5.exp, .sl (.int .i64) q5.text .no, .sl .raw q5.items .no], .cells [.int .i64 q6, .int .i64 q7, .int .i64 q8, .str q9, .cF, .cF], .cells [.int .i64 MR, .int .i64 q11, .int .i64 q12, .str q13, .sl .str q14 (.own 4), .sl .json q15 (.own 5)], .cells [.int .i64 q16.kind, .int .i64 q16.aB, .int .i64 q16.exp, .sl (.int .i64) q16.text .no, .sl .raw q16.items .no], .tok, .tok]⟩
noncomputable def yC {R:Type} (K:Ex→St→Option R) (rc:kC→Option R) (d:kC):Option R:=tA (fun z0 z1 z2 z3 z4 z5 z6 z7 z8 z9 PR vD z12 Ri z14 z15 z16 z17=>rc (z0,z1,z2,z3,z4,z5,z6,z7,z8,z9,PR,vD,z12,Ri,z14,z15,z16,z17)) d.1 d.2.1 d.2.2.1 d.2.2.2.1 d.2.2.2.2.1 d.2.2.2.2.2.1 d.2.2.2.2.2.2.1 d.2.2.2.2.2.2.2.1 d.2.2.2.2.2.2.2.2.1 d.2.2.2.2.2.2.2.2.2.1 d.2.2.2.2.2.2.2.2.2.2.1 d.2.2.2.2.2.2.2.2.2.2.2.1 d.2.2.2.2.2.2.2.2.2.2.2.2.1 d.2.2.2.2.2.2.2.2.2.2.2.2.2.1 d.2.2.2.2.2.2.2.2.2.2.2.2.2.2.1 d.2.2.2.2.2.2.2.2.2.2.2.2.2.2.2.1 d.2.2.2.2.2.2.2.2.2.2.2.2.2.2.2.2.1 d.2.2.2.2.2.2.2.2.2.2.2.2.2.2.2.2.2 (xr K)
noncomputable def nU {R:Type} (K:Ex→St→Option R) (n:Nat) (d:kC):Option R:=bA n d.1 d.2.1 d.2.2.1 d.2.2.2.1 d.2.2.2.2.1 d.2.2.2.2.2.1 d.2.2.2.2.2.2.1 d.2.2.2.2.2.2.2.1 d.2.2.2.2.2.2.2.2.1 d.2.2.2.2.2.2.2.2.2.1 d.2.2.2.2.2.2.2.2.2.2.1 d.2.2.2.2.2.2.2.2.2.2.2.1 d.2.2.2.2.2.2.2.2.2.2.2.2.1 d.2.2.2.2.2.2.2.2.2.2.2.2.2.1 d.2.2.2.2.2.2.2.2.2.2.2.2.2.2.1 d.2.2.2.2.2.2.2.2.2.2.2.2.2.2.2.1 d.2.2.2.2.2.2.2.2.2.2.2.2.2.2.2.2.1 d.2.2.2.2.2.2.2.2.2.2.2.2.2.2.2.2.2 (xr K)
abbrev kD:List bP := [.leaf (.undef), .leaf (.int .i64), .leaf (.ptr 0 0), .leaf (.undef), .leaf (.ptr 1 0), .leaf (.int .i64), .leaf (.ptr 2 0), .leaf (.int .i64), .leaf (.ptr 3 0), .leaf (.str), .leaf (.bool), .leaf (.int .i64), .leaf (.undef), .leaf (.undef), .leaf (.undef), .leaf (.undef), .leaf (.undef), .leaf (.undef), .leaf (.undef), .leaf (.undef), .leaf (.undef), .leaf (.undef), .leaf (.undef), .leaf (.undef), .leaf (.undef), .leaf (.undef), .leaf (.undef), .leaf (.undef), .leaf (.undef), .leaf (.undef), .leaf (.undef), .leaf (.undef), .leaf (.undef), .leaf (.undef), .leaf (.undef), .leaf (.undef), .leaf (.undef), .leaf (.undef), .leaf (.undef), .leaf (.undef), .leaf (.undef), .leaf (.undef), .leaf (.undef), .leaf (.undef), .leaf (.undef), .leaf (.undef), .leaf (.undef), .leaf (.undef), .leaf (.undef), .leaf (.undef), .leaf (.undef), .leaf (.undef), .leaf (.undef), .leaf (.undef), .leaf (.undef), .leaf (.undef), .leaf (.undef), .leaf (.undef), .leaf (.undef), .leaf (.undef), .leaf (.undef), .leaf (.undef), .leaf (.undef), .leaf (.undef), .leaf (.undef), .leaf (.undef), .leaf (.undef), .leaf (.undef), .leaf (.undef), .leaf (.undef), .leaf (.undef), .leaf (.undef), .leaf (.undef), .leaf (.undef), .leaf (.undef), .leaf (.undef), .leaf (.undef), .leaf (.undef), .leaf (.undef), .leaf (.undef), .leaf (.undef), .leaf (.undef), .leaf (.undef), .leaf (.undef), .leaf (.undef), .leaf (.undef), .leaf (.undef), .leaf (.undef), .leaf (.undef), .leaf (.undef), .leaf (.undef), .leaf (.undef), .leaf (.undef), .leaf (.undef), .leaf (.undef), .leaf (.undef), .leaf (.undef), .leaf (.undef), .leaf (.undef), .leaf (.undef), .leaf (.undef), .leaf (.undef), .leaf (.undef), .leaf (.undef), .leaf (.undef)]
abbrev kE:List aI := [.cells [.int .i64, .int .i64, .int .i64, .sl (.int .i64), .sl .raw], .cells [.int .i64, .int .i64, .int .i64, .str, .cF, .cF], .cells [.int .i64, .int .i64, .int .i64, .str, .Nd .str 4, .Nd .json 5], .cells [.int .i64, .int .i64, .int .i64, .sl (.int .i64), .sl .raw], .tok, .tok]
noncomputable def yD (x:bP.av kD) (y:aI.av kE):Nat:=(Int.natAbs x.2.1+Int.natAbs x.2.2.2.2.2.1+Int.natAbs x.2.2.2.2.2.2.2.1+List.length x.2.2.2.2.2.2.2.2.2.1+Int.natAbs x.2.2.2.2.2.2.2.2.2.2.2.1+Raw.fu (⟨y.1.1,y.1.2.1,y.1.2.2.1,y.1.2.2.2.1,y.1.2.2.2.2.1⟩:Raw)+Int.natAbs y.2.1.1+Int.natAbs y.2.1.2.1+Int.natAbs y.2.1.2.2.1+List.length y.2.1.2.2.2.1+Int.natAbs y.2.2.1.1+Int.natAbs y.2.2.1.2.1+Int.natAbs y.2.2.1.2.2.1+List.length y.2.2.1.2.2.2.1+List.length y.2.2.1.2.2.2.2.1+List.length y.2.2.1.2.2.2.2.2.1+Raw.fu (⟨y.2.2.2.1.1,y.2.2.2.1.2.1,y.2.2.2.1.2.2.1,y.2.2.2.1.2.2.2.1,y.2.2.2.1.2.2.2.2.1⟩:Raw)+64)
noncomputable def yE (x:bP.av kD) (y:aI.av kE):kC:=(x.2.1,x.2.2.2.2.2.1,x.2.2.2.2.2.2.2.1,x.2.2.2.2.2.2.2.2.2.1,x.2.2.2.2.2.2.2.2.2.2.1,x.2.2.2.2.2.2.2.2.2.2.2.1,(⟨y.1.1,y.1.2.1,y.1.2.2.1,y.1.2.2.2.1,y.1.2.2.2.2.1⟩:Raw),y.2.1.1,y.2.1.2.1,y.2.1.2.2.1,y.2.1.2.2.2.1,y.2.2.1.1,y.2.2.1.2.1,y.2.2.1.2.2.1,y.2.2.1.2.2.2.1,y.2.2.1.2.2.2.2.1,y.2.2.1.2.2.2.2.2.1,(⟨y.2.2.2.1.1,y.2.2.2.1.2.1,y.2.2.2.1.2.2.1,y.2.2.2.1.2.2.2.1,y.2.2.2.1.2.2.2.2.1⟩:Raw))
noncomputable def xu {R:Type} (L:jJ R):bP.av kD→aI.av kE→(Ex→St→Option R)→Option R:=fun x y K=>L (yD x y) x.2.1 x.2.2.2.2.2.1 x.2.2.2.2.2.2.2.1 x.2.2.2.2.2.2.2.2.2.1 x.2.2.2.2.2.2.2.2.2.2.1 x.2.2.2.2.2.2.2.2.2.2.2.1 (⟨y.1.1,y.1.2.1,y.1.2.2.1,y.1.2.2.2.1,y.1.2.2.2.2.1⟩:Raw) y.2.1.1 y.2.1.2.1 y.2.1.2.2.1 y.2.1.2.2.2.1 y.2.2.1.1 y.2.2.1.2.1 y.2.2.1.2.2.1 y.2.2.1.2.2.2.1 y.2.2.1.2.2.2.2.1 y.2.2.1.2.2.2.2.2.1 (⟨y.2.2.2.1.1,y.2.2.2.1.2.1,y.2.2.2.1.2.2.1,y.2.2.2.1.2.2.2.1,y.2.2.2.1.2.2.2.2.1⟩:Raw) (xr K)
noncomputable def mc {R:Type} (bZ:iP R) (aJ:dv R) (bA:jJ R) (fT:Int→Int→Int→Raw→Int→Int→Int→aj→Int→Int→Int→aj→(List aj)→(List Json)→Option R) (x7:Int) (x8:Int) (x9:Int) (BN:Raw) (RY:Int) (x12:Int) (TB:Int) (Up:aj) (pH:Int) (s5:Int) (mQ:Int) (s6:aj) (Cu:List aj) (An:List Json) (e0:Int→Int→Int→aj→Int→Int→Int→aj→(List aj)→(List Json)→Option R):Option R :=
  bif (decide (x9<(BN.items.length:Int)))then (bif (decide (x9<(12:Int)))then (bif (decide (x7<(16:Int)))then (cX (decide ((0:Int)≤x9)&&decide (x9<BN.items.length)) (cX (decide ((0:Int)≤(min (((BN.items.getD x9.toNat (Ty.cn .raw)).text).length:Int) 8))&&decide ((min (((BN.items.getD x9.toNat (Ty.cn .raw)).text).length:Int) 8)≤((BN.items.getD x9.toNat (Ty.cn .raw)).text).length)) (cX (decide ((0:Int)≤(min (((BN.items.getD x9.toNat (Ty.cn .raw)).text).length:Int) 8))) (bZ ((((BN.items.getD x9.toNat (Ty.cn .raw)).text).drop 0).take ((min (((BN.items.getD x9.toNat (Ty.cn .raw)).text).length:Int) 8).toNat - 0)) (fun Th=>bif (x8==7)then (bA (Int.natAbs x7+Int.natAbs x8+Int.natAbs x9+List.length Th+Int.natAbs 0+Raw.fu (⟨BN.kind,BN.aB,BN.exp,BN.text,BN.items⟩:Raw)+Int.natAbs RY+Int.natAbs x12+Int.natAbs TB+List.length Up+Int.natAbs pH+Int.natAbs s5+Int.natAbs mQ+List.length s6+List.length Cu+List.length An+Raw.fu (⟨(BN.items.getD x9.toNat (Ty.cn .raw)).kind,(BN.items.getD x9.toNat (Ty.cn .raw)).aB,(BN.items.getD x9.toNat (Ty.cn .raw)).exp,(BN.items.getD x9.toNat (Ty.cn .raw)).text,(BN.items.getD x9.toNat (Ty.cn .raw)).items⟩:Raw)+64) x7 x8 x9 Th false 0 (⟨BN.kind,BN.aB,BN.exp,BN.text,BN.items⟩:Raw) RY x12 TB Up pH s5 mQ s6 Cu An (⟨(BN.items.getD x9.toNat (Ty.cn .raw)).kind,(BN.items.getD x9.toNat (Ty.cn .raw)).aB,(BN.items.getD x9.toNat (Ty.cn .raw)).exp,(BN.items.getD x9.toNat (Ty.cn .raw)).text,(BN.items.getD x9.toNat (Ty.cn .raw)).items⟩:Raw) (fun Oz Ro Rp WV V6 NM WY YY YZ Y0 WZ Y1 Y2 y55 V7 V8 V9=>bif V6 then (fT Oz Ro (IntKind.i64.wrap (Rp+1)) (⟨NM.kind,NM.aB,NM.exp,NM.text,NM.items⟩:Raw) WY YY YZ Y0 WZ Y1 Y2 y55 V7 V8)else (cX (decide ((V7.length+1)*16≤140737488355328)) (aJ (⟨V9.kind,V9.aB,V9.exp,V9.text,V9.items⟩:Raw) (IntKind.i64.wrap (Oz+1)) (fun Tm=>cX (decide ((V8.length+1)*88≤140737488355328)) (fT Oz Ro (IntKind.i64.wrap (Rp+1)) (⟨NM.kind,NM.aB,NM.exp,NM.text,NM.items⟩:Raw) WY YY YZ Y0 WZ Y1 Y2 y55 (V7++([WV]:List aj)) (V8++([(⟨Tm.kind,⟨Tm.num.aB,Tm.num.exp⟩,Tm.text,Tm.names,Tm.items⟩:Json)]:List Json))))))))else (aJ (⟨(BN.items.getD x9.toNat (Ty.cn .raw)).kind,(BN.items.getD x9.toNat (Ty.cn .raw)).aB,(BN.items.getD x9.toNat (Ty.cn .raw)).exp,(BN.items.getD x9.toNat (Ty.cn .raw)).text,(BN.items.getD x9.toNat (Ty.cn .raw)).items⟩:Raw) (IntKind.i64.wrap (x7+1)) (fun Un=>cX (decide ((An.length+1)*88≤140737488355328)) (fT x7 x8 (IntKind.i64.wrap (x9+1)) (⟨BN.kind,BN.aB,BN.exp,BN.text,BN.items⟩:Raw) RY x12 TB Up pH s5 mQ s6 Cu (An++([(⟨Un.kind,⟨Un.num.aB,Un.num.exp⟩,Un.text,Un.names,Un.items⟩:Json)]:List Json))))))))))else (e0 RY x12 TB Up pH s5 mQ s6 Cu An))else (e0 RY x12 TB Up pH s5 mQ s6 Cu An))else (e0 RY x12 TB Up pH s5 mQ s6 Cu An)
noncomputable def bn {R:Type} (aJ:dv R):lC R
  | 0,_,_,_,_,_,_,_,_,_,_,_,_,_,_,_=>none
  | n+1,l0,l7,nj,vj,D1,D2,KA,KB,KC,KD,zT,FC,M0,M1,e0=>mc bZ aJ bA (fun l0 l7 nj vj D1 D2 KA KB KC KD zT FC M0 M1=>bn aJ n l0 l7 nj vj D1 D2 KA KB KC KD zT FC M0 M1 e0) l0 l7 nj vj D1 D2 KA KB KC KD zT FC M0 M1 e0
noncomputable def tC:Hint := { live := [1,2,4,5,6,7],own := [],rows := [],cells := [(2,4, .str,false),(2,5, .json,false)],drop := [],out := [4,6] }
abbrev kF:Type:=Int × Int × Int × Raw × Int × Int × Int × aj × Int × Int × Int × aj × (List aj) × (List Json)
noncomputable def qR:kF→St:=fun d=>⟨[.undef, .int .i64 d.1, .ptr 0 0, .undef, .ptr 1 0, .int .i64 d.2.1, .ptr 2 0, .int .i64 d.2.2.1, .undef, .undef, .undef, .undef, .undef, .undef, .undef, .undef, .undef, .undef, .undef, .undef, .undef, .undef, .undef, .undef, .undef, .undef, .undef, .undef, .undef, .undef, .undef, .undef, .undef, .undef, .undef, .undef, .undef, .undef, .undef, .undef, .undef, .undef, .undef, .undef, .undef, .undef, .undef, .undef, .undef, .undef, .undef, .undef, .undef, .undef, .undef, .undef, .undef, .undef, .undef, .undef, .undef, .undef, .undef, .undef, .undef, .undef, .undef, .undef, .undef, .undef, .undef, .undef, .undef, .undef, .undef, .undef, .undef, .undef, .undef, .undef, .undef, .undef, .undef, .undef, .undef, .undef, .undef, .undef, .undef, .undef, .undef, .undef, .undef, .undef, .undef, .undef, .undef, .undef, .undef, .undef, .undef, .undef, .undef, .undef, .undef], [.cells [.int .i64 d.2.2.2.1.kind, .int .i64 d.2.2.2.1.aB, .int .i64 d.2.2.2.1.exp, .sl (.int .i64) d.2.2.2.1.text .no, .sl .raw d.2.2.2.1.items .no], .cells [.int .i64 d.2.2.2.2.1, .int .i64 d.2.2.2.2.2.1, .int .i64 d.2.2.2.2.2.2.1, .str d.2.2.2.2.2.2.2.1, .cF, .cF], .cells [.int .i64 d.2.2.2.2.2.2.2.2.1, .int .i64 d.2.2.2.2.2.2.2.2.2.1, .int .i64 d.2.2.2.2.2.2.2.2.2.2.1, .str d.2.2.2.2.2.2.2.2.2.2.2.1, .sl .str d.2.2.2.2.2.2.2.2.2.2.2.2.1 (.own 3), .sl .json d.2.2.2.2.2.2.2.2.2.2.2.2.2 (.own 4)], .tok, .tok]⟩
noncomputable def xw {R:Type} (K:Ex→St→Option R) (q0:Int) (q1:Int) (q2:Int) (q3:aj) (q4:Int) (q5:Int) (q6:Int) (q7:aj) (q8:List aj) (q9:List Json):Option R:=K (.exit 1) ⟨[.undef, .undef, .undef, .undef, .ptr 0 0, .undef, .ptr 1 0, .undef, .undef, .undef, .undef, .undef, .undef, .undef, .undef, .undef, .undef, .undef, .undef, .undef, .undef, .undef, .undef, .undef, .undef, .undef, .undef, .undef, .undef, .undef, .undef, .undef, .undef, .undef, .undef, .undef, .undef, .undef, .undef, .undef, .undef, .undef, .undef, .undef, .undef, .undef, .undef, .undef, .undef, .undef, .undef, .undef, .undef, .undef, .undef, .undef, .undef, .undef, .undef, .undef, .undef, .undef, .undef, .undef, .undef, .undef, .undef, .undef, .undef, .undef, .undef, .undef, .undef, .undef, .undef, .undef, .undef, .undef, .undef, .undef, .undef, .undef, .undef, .undef, .undef, .undef, .undef, .undef, .undef, .undef, .undef, .undef, .undef, .undef, .undef, .undef, .undef, .undef, .undef, .undef, .undef, .undef, .undef, .undef, .undef], [.cells [.int .i64 q0, .int .i64 q1, .int .i64 q2, .str q3, .cF, .cF], .cells [.int .i64 q4, .int .i64 q5, .int .i64 q6, .str q7, .sl .str q8 (.own 2), .sl .json q9 (.own 3)], .tok, .tok]⟩
noncomputable def yF {R:Type} (bZ:iP R) (aJ:dv R) (bA:jJ R) (K:Ex→St→Option R) (rc:kF→Option R) (d:kF):Option R:=mc bZ aJ bA (fun z0 z1 z2 z3 z4 z5 z6 z7 z8 z9 PR vD z12 Ri=>rc (z0,z1,z2,z3,z4,z5,z6,z7,z8,z9,PR,vD,z12,Ri)) d.1 d.2.1 d.2.2.1 d.2.2.2.1 d.2.2.2.2.1 d.2.2.2.2.2.1 d.2.2.2.2.2.2.1 d.2.2.2.2.2.2.2.1 d.2.2.2.2.2.2.2.2.1 d.2.2.2.2.2.2.2.2.2.1 d.2.2.2.2.2.2.2.2.2.2.1 d.2.2.2.2.2.2.2.2.2.2.2.1 d.2.2.2.2.2.2.2.2.2.2.2.2.1 d.2.2.2.2.2.2.2.2.2.2.2.2.2 (xw K)
noncomputable def nV {R:Type} (aJ:dv R) (K:Ex→St→Option R) (n:Nat) (d:kF):Option R:=bn aJ n d.1 d.2.1 d.2.2.1 d.2.2.2.1 d.2.2.2.2.1 d.2.2.2.2.2.1 d.2.2.2.2.2.2.1 d.2.2.2.2.2.2.2.1 d.2.2.2.2.2.2.2.2.1 d.2.2.2.2.2.2.2.2.2.1 d.2.2.2.2.2.2.2.2.2.2.1 d.2.2.2.2.2.2.2.2.2.2.2.1 d.2.2.2.2.2.2.2.2.2.2.2.2.1 d.2.2.2.2.2.2.2.2.2.2.2.2.2 (xw K)
abbrev kG:List bP := [.leaf (.undef), .leaf (.int .i64), .leaf (.ptr 0 0), .leaf (.undef), .leaf (.ptr 1 0), .leaf (.int .i64), .leaf (.ptr 2 0), .leaf (.int .i64), .leaf (.undef), .leaf (.undef), .leaf (.undef), .leaf (.undef), .leaf (.undef), .leaf (.undef), .leaf (.undef), .leaf (.undef), .leaf (.undef), .leaf (.undef), .leaf (.undef), .leaf (.undef), .leaf (.undef), .leaf (.undef), .leaf (.undef), .leaf (.undef), .leaf (.undef), .leaf (.undef), .leaf (.undef), .leaf (.undef), .leaf (.undef), .leaf (.undef), .leaf (.undef), .leaf (.undef), .leaf (.undef), .leaf (.undef), .leaf (.undef), .leaf (.undef), .leaf (.undef), .leaf (.undef), .leaf (.undef), .leaf (.undef), .leaf (.undef), .leaf (.undef), .leaf (.undef), .leaf (.undef), .leaf (.undef), .leaf (.undef), .leaf (.undef), .leaf (.undef), .leaf (.undef), .leaf (.undef), .leaf (.undef), .leaf (.undef), .leaf (.undef), .leaf (.undef), .leaf (.undef), .leaf (.undef), .leaf (.undef), .leaf (.undef), .leaf (.undef), .leaf (.undef), .leaf (.undef), .leaf (.undef), .leaf (.undef), .leaf (.undef), .leaf (.undef), .leaf (.undef), .leaf (.undef), .leaf (.undef), .leaf (.undef), .leaf (.undef), .leaf (.undef), .leaf (.undef), .leaf (.undef), .leaf (.undef), .leaf (.undef), .leaf (.undef), .leaf (.undef), .leaf (.undef), .leaf (.undef), .leaf (.undef), .leaf (.undef), .leaf (.undef), .leaf (.undef), .leaf (.undef), .leaf (.undef), .leaf (.undef), .leaf (.undef), .leaf (.undef), .leaf (.undef), .leaf (.undef), .leaf (.undef), .leaf (.undef), .leaf (.undef), .leaf (.undef), .leaf (.undef), .leaf (.undef), .leaf (.undef), .leaf (.undef), .leaf (.undef), .leaf (.undef), .leaf (.undef), .leaf (.undef), .leaf (.undef), .leaf (.undef), .leaf (.undef)]
abbrev kH:List aI := [.cells [.int .i64, .int .i64, .int .i64, .sl (.int .i64), .sl .raw], .cells [.int .i64, .int .i64, .int .i64, .str, .cF, .cF], .cells [.int .i64, .int .i64, .int .i64, .str, .Nd .str 3, .Nd .json 4], .tok, .tok]
noncomputable def yG (x:bP.av kG) (y:aI.av kH):Nat:=(Int.natAbs x.2.1+Int.natAbs x.2.2.2.2.2.1+Int.natAbs x.2.2.2.2.2.2.2.1+Raw.fu (⟨y.1.1,y.1.2.1,y.1.2.2.1,y.1.2.2.2.1,y.1.2.2.2.2.1⟩:Raw)+Int.natAbs y.2.1.1+Int.natAbs y.2.1.2.1+Int.natAbs y.2.1.2.2.1+List.length y.2.1.2.2.2.1+Int.natAbs y.2.2.1.1+Int.natAbs y.2.2.1.2.1+Int.natAbs y.2.2.1.2.2.1+List.length y.2.2.1.2.2.2.1+List.length y.2.2.1.2.2.2.2.1+List.length y.2.2.1.2.2.2.2.2.1+64)
noncomputable def yH (x:bP.av kG) (y:aI.av kH):kF:=(x.2.1,x.2.2.2.2.2.1,x.2.2.2.2.2.2.2.1,(⟨y.1.1,y.1.2.1,y.1.2.2.1,y.1.2.2.2.1,y.1.2.2.2.2.1⟩:Raw),y.2.1.1,y.2.1.2.1,y.2.1.2.2.1,y.2.1.2.2.2.1,y.2.2.1.1,y.2.2.1.2.1,y.2.2.1.2.2.1,y.2.2.1.2.2.2.1,y.2.2.1.2.2.2.2.1,y.2.2.1.2.2.2.2.2.1)
noncomputable def xx {R:Type} (L:lC R):bP.av kG→aI.av kH→(Ex→St→Option R)→Option R:=fun x y K=>L (yG x y) x.2.1 x.2.2.2.2.2.1 x.2.2.2.2.2.2.2.1 (⟨y.1.1,y.1.2.1,y.1.2.2.1,y.1.2.2.2.1,y.1.2.2.2.2.1⟩:Raw) y.2.1.1 y.2.1.2.1 y.2.1.2.2.1 y.2.1.2.2.2.1 y.2.2.1.1 y.2.2.1.2.1 y.2.2.1.2.2.1 y.2.2.1.2.2.2.1 y.2.2.1.2.2.2.2.1 y.2.2.1.2.2.2.2.2.1 (xw K)
noncomputable def qy (R:Type) (bA:jJ R) (bn:lC R):Nat→Option (Hint × cp R):=fun i=>match i with
  | 11=>some (tC,(gE kG kH (xx bn) qB))
  | 18=>some (tB,(gE kD kE (xu bA) qB))
  | _=>none

theorem Gg {R:Type} (bZ:iP R) (di:mi R) (aJ:dv R) (eT:o9 R) (bA:jJ R) (bn:lC R) (K:Ex→St→Option R) (rc:St→Option R) (d:kC):roundOf tt (nO R bZ di aJ eT) (qy R bA bn) 0 ((aQ (aL Tryz.f16)).getD 1 .skip) tB (qQ d) rc K=yC K (fun d=>rc (qQ d)) d:=by kernel_rfl
theorem EN {R:Type} (K:Ex→St→Option R) (n:Nat) (d:kC):nU K (n+1) d=yC K (nU K n) d:=by kernel_rfl
theorem EO {R:Type} (K:Ex→St→Option R) (d:kC):nU K 0 d=none:=by kernel_rfl
theorem Gh (x:bP.av kD) (y:aI.av kE):(⟨bP.cT kD x,aI.cT kE y⟩:St)=qQ (yE x y):=by kernel_rfl
theorem Gi {R:Type} (x:bP.av kD) (y:aI.av kE) (K:Ex→St→Option R):xu (bA) x y K=nU K (yD x y) (yE x y):=by kernel_rfl
theorem IT {R:Type} (aJ:dv R) (other:cp R) (ho:pG tt (nO R bZ di aJ eT) (qy R bA (bn aJ)) 0 ((aQ (aL Tryz.f16)).getD 1 .skip) tB other):pG tt (nO R bZ di aJ eT) (qy R bA (bn aJ)) 0 ((aQ (aL Tryz.f16)).getD 1 .skip) tB (gE kD kE (xu (bA)) other) :=
  gW (A:=nU) ho (k9 qQ (yC) (nU) (EO) (Gg bZ di aJ eT bA (bn aJ)) (EN)) yD yE Gh (Gi)

theorem Gj {R:Type} (bZ:iP R) (di:mi R) (aJ:dv R) (eT:o9 R) (bA:jJ R) (bn:lC R) (K:Ex→St→Option R) (rc:St→Option R) (d:kF):roundOf tt (nO R bZ di aJ eT) (qy R bA bn) 0 ((aQ (aL Tryz.f16)).getD 0 .skip) tC (qR d) rc K=yF bZ aJ bA K (fun d=>rc (qR d)) d:=by kernel_rfl
theorem EP {R:Type} (aJ:dv R) (K:Ex→St→Option R) (n:Nat) (d:kF):nV aJ K (n+1) d=yF bZ aJ bA K (nV aJ K n) d:=by kernel_rfl
theorem ER {R:Type} (aJ:dv R) (K:Ex→St→Option R) (d:kF):nV aJ K 0 d=none:=by kernel_rfl
theorem Gk (x:bP.av kG) (y:aI.av kH):(⟨bP.cT kG x,aI.cT kH y⟩:St)=qR (yH x y):=by kernel_rfl
theorem Gl {R:Type} (aJ:dv R) (x:bP.av kG) (y:aI.av kH) (K:Ex→St→Option R):xx (bn aJ) x y K=nV aJ K (yG x y) (yH x y):=by kernel_rfl
theorem IU {R:Type} (aJ:dv R) (other:cp R) (ho:pG tt (nO R bZ di aJ eT) (qy R bA (bn aJ)) 0 ((aQ (aL Tryz.f16)).getD 0 .skip) tC other):pG tt (nO R bZ di aJ eT) (qy R bA (bn aJ)) 0 ((aQ (aL Tryz.f16)).getD 0 .skip) tC (gE kG kH (xx (bn aJ)) other) :=
  gW (A:=nV aJ) ho (k9 qR (yF bZ aJ bA) (nV aJ) (ER aJ) (Gj bZ di aJ eT bA (bn aJ)) (EP aJ)) yG yH Gk (Gl aJ)

noncomputable def nP {R:Type} (bZ:iP R) (di:mi R) (eT:o9 R) (bn:lC R) (x1:Raw) (x2:Int) (k0:Json→Option R):Option R :=
  eT x1.kind 7 (fun y3=>bif ((IntKind.i64.wrap (1+y3))==4)then (di x1.aB x1.exp (fun y4=>k0 (⟨(IntKind.i64.wrap (1+y3)),⟨y4.aB,y4.exp⟩,([]:aj),([]:List aj),([]:List Json)⟩:Json)))else (bif ((IntKind.i64.wrap (1+y3))==5)then (cX (decide ((0:Int)≤(min (x1.text.length:Int) 20))&&decide ((min (x1.text.length:Int) 20)≤x1.text.length)) (cX (decide ((0:Int)≤(min (x1.text.length:Int) 20))) (bZ ((x1.text.drop 0).take ((min (x1.text.length:Int) 20).toNat - 0)) (fun y5=>k0 (⟨(IntKind.i64.wrap (1+y3)),⟨0,0⟩,y5,([]:List aj),([]:List Json)⟩:Json)))))else (let j71:=fun (z6:Bool)=>bif z6 then (bn (Int.natAbs x2+Int.natAbs (IntKind.i64.wrap (1+y3))+Int.natAbs 0+Raw.fu (⟨x1.kind,x1.aB,x1.exp,x1.text,x1.items⟩:Raw)+Int.natAbs 0+Int.natAbs 0+Int.natAbs 0+List.length ([]:aj)+Int.natAbs (IntKind.i64.wrap (1+y3))+Int.natAbs 0+Int.natAbs 0+List.length ([]:aj)+List.length ([]:List aj)+List.length ([]:List Json)+64) x2 (IntKind.i64.wrap (1+y3)) 0 (⟨x1.kind,x1.aB,x1.exp,x1.text,x1.items⟩:Raw) 0 0 0 ([]:aj) (IntKind.i64.wrap (1+y3)) 0 0 ([]:aj) ([]:List aj) ([]:List Json) (fun y61 y62 y63 y64 y65 y66 y67 y68 y69 y70=>k0 (⟨y65,⟨y66,y67⟩,y68,y69,y70⟩:Json)))else (k0 (⟨(IntKind.i64.wrap (1+y3)),⟨0,0⟩,([]:aj),([]:List aj),([]:List Json)⟩:Json)); bif ((IntKind.i64.wrap (1+y3))==6)then (j71 ((IntKind.i64.wrap (1+y3))==6))else (j71 ((IntKind.i64.wrap (1+y3))==7)))))
noncomputable def FH {R:Type} (aJ:dv R):dv R:=fun x1 x2 k0=>nP bZ di eT (bn aJ) x1 x2 k0
theorem P5 {R:Type} (bZ:iP R) (di:mi R) (aJ:dv R) (eT:o9 R) (bA:jJ R) (bn:lC R) (x1:Raw) (x2:Int) (k:V→az→Option R):iE tt (nO R bZ di aJ eT) (qy R bA bn) false Tryz.f16 (aL Tryz.f16) [.agg [.int .i64 x1.kind, .int .i64 x1.aB, .int .i64 x1.exp, .sl (.int .i64) x1.text .no, .sl .raw x1.items .no], .int .i64 x2] [] k =
    nP bZ di eT bn x1 x2 (fun q0=>k (.agg [.int .i64 q0.kind, .int .i64 q0.num.aB, .int .i64 q0.num.exp, .str q0.text, .sl .str q0.names .no, .sl .json q0.items .no]) []):=by kernel_rfl
theorem KN (R:Type) (aJ:dv R):∀a∈aQ (aL Tryz.f16),cO tt (nO R bZ di aJ eT) (qy R bA (bn aJ)) 0 a:=by
  refine bF 2 (by kernel_rfl) fun i hi => ?_
  match i,hi with
  | 0,_=>exact gb (by kernel_rfl) (IU aJ _ jL)
  | 1,_=>exact gb (by kernel_rfl) (IT aJ _ jL)
  | n+2,hi=>omega
theorem KO (R:Type) (aJ:dv R) (CQ:ay.Spec.Ok Tryz.prog 16 (aA o5 o6 (lB aJ) bg)) (other:ay.Spec R) (ho:ay.Spec.Ok Tryz.prog 16 other):ay.Spec.Ok Tryz.prog 16 (aA o5 o6 (lB (FH aJ)) other) :=
  bu ho (bj TT mixed (NV R aJ CQ) (keep:=false) rfl rfl rfl rfl 0 (KN R aJ)) fun (x:bP.av o5) (y:aI.av o6) k=>P5 bZ di aJ eT bA (bn aJ) (⟨x.1.1,x.1.2.1,x.1.2.2.1,x.1.2.2.2.1,x.1.2.2.2.2.1⟩:Raw) x.2.1 k
noncomputable def jK {R:Type}:Nat→dv R
  | 0,_,_,_=>none
  | n+1,l0,l7,k0'=>FH (jK n) l0 l7 k0'
theorem WE {R:Type} (n:Nat):jK (R:=R) (n+1)=FH (jK n):=by kernel_rfl
theorem M3 (R:Type):∀n,ay.Spec.Ok Tryz.prog 16 (aA o5 o6 (lB (jK (R:=R) n)) bg) :=
  vR (run:=fun n=>lB (jK (R:=R) n)) (fun x y k=>by kernel_rfl) fun n hyp=>KO R (jK n) hyp bg (aO _)
noncomputable def me {R:Type}:dv R:=fun x1 x2 k0=>jK (Raw.depth x1+2) x1 x2 k0
theorem M4 (R:Type):lB (R:=R) me=fun x y k=>lB (jK (Raw.depth (⟨x.1.1,x.1.2.1,x.1.2.2.1,x.1.2.2.2.1,x.1.2.2.2.2.1⟩:Raw)+2)) x y k:=by kernel_rfl
theorem M5 (R:Type) (other:ay.Spec R) (ho:ay.Spec.Ok Tryz.prog 16 other):ay.Spec.Ok Tryz.prog 16 (aA o5 o6 (lB me) other) :=
  Bz (C6 (run:=fun n=>lB (jK (R:=R) n)) (fun x y=>(Raw.depth (⟨x.1.1,x.1.2.1,x.1.2.2.1,x.1.2.2.2.1,x.1.2.2.2.2.1⟩:Raw)+2)) ho (M3 R)) (M4 R)

end Go.Proofs.YtmlkkgfenfdndaaGreatDoor

set_option maxRecDepth 100000
namespace Go.Proofs.YtmlkkgfenfdndaaGreatDoor
open Go Go.ay Go.Lib

mutual
def Raw.tot:Raw→Nat
  | ⟨_,_,_,_,is⟩=>Raw.totL is+1
def Raw.totL:List Raw→Nat
  | []=>0
  | x::l=>Raw.tot x+Raw.totL l
end
mutual
def Raw.ok:Raw→Prop
  | ⟨k,m,e,t,is⟩=>(DR k∧DR m∧DR e∧∀c∈t,DR c)∧(t.length≤1048576∧is.length≤1048576)∧Raw.okL is
def Raw.okL:List Raw→Prop
  | []=>True
  | x::l=>Raw.ok x∧Raw.okL l
end
theorem M6 {T:Ty}:∀(l:List T.den) (m:Nat),RU m (l.map T.cells)→(∀(x:T.den) n,Ni n (T.cells x)→1≤n)→l.length≤m
  | [],_,_,_=>Nat.zero_le _
  | x::l,_, .cons h t,hh=>by
    have h1:=hh x _ h
    have h2:=M6 l _ t hh
    simp only[List.length_cons]
    omega
theorem ZT {n:Nat} {v:V} (h:Wt n v):1≤n:=by
  cases h <;> omega
theorem UH:∀(l:List (Ty.den (.int .i64))) (m:Nat),RU m (l.map (Ty.cells (.int .i64)))→∀c∈(l:List Int),DR c
  | [],_,_,c,hc=>by cases hc
  | x::l,_, .cons h t,c,hc=>by
    rcases List.mem_cons.1 hc with rfl|hc
    · have h':Ni _ [V.int .i64 c]:=h
      cases h' with
      | cons a b=>cases a with|int _ hk=>exact K3.1 hk
    · exact UH l _ t c hc
mutual
theorem ZU:∀(x:Raw) (n:Nat),n≤1048576→Ni n (Ty.cells .raw x)→Raw.tot x≤n∧Raw.ok x
  | ⟨k,m,e,t,is⟩,n,hn,h=>by
    have hL:=UI is
    have h':Ni n [.int .i64 k, .int .i64 m, .int .i64 e, .sl (.int .i64) t .no, .sl .raw is .no]:=h
    cases h' with
    | cons a1 h'=>cases h' with
      | cons a2 h'=>cases h' with
        | cons a3 h'=>cases h' with
          | cons a4 h'=>cases h' with
            | cons a5 h' =>
              cases h'
              cases a1 with|int p1 k1 =>
              cases a2 with|int p2 k2 =>
              cases a3 with|int p3 k3 =>
              cases a4 with|sl p4 w4 =>
              cases a5 with|sl p5 w5 =>
              have hl4:=M6 (T := .int .i64) t _ w4 (fun x n h=>by
                have h':Ni n [V.int .i64 x]:=h
                cases h' with|cons a b=>have:=ZT a; omega)
              have hl5:=M6 (T := .raw) is _ w5 (fun x n h=>by
                have h':Ni n (.int .i64 x.kind::_):=h
                cases h' with|cons a b=>have:=ZT a; omega)
              obtain ⟨g1,g2⟩:=hL _ (by omega) w5
              refine ⟨by simp only[Raw.tot]; omega,⟨K3.1 k1,K3.1 k2,K3.1 k3,UH t _ w4⟩,⟨Nat.le_trans hl4 (by omega),Nat.le_trans hl5 (by omega)⟩,g2⟩
theorem UI:∀(l:List Raw) (n:Nat),n≤1048576→RU n (l.map (Ty.cells .raw))→Raw.totL l≤n∧Raw.okL l
  | [],_,_,_=>⟨Nat.zero_le _,trivial⟩
  | x::l,_,hn, .cons h t=>by
    obtain ⟨a1,a2⟩:=ZU x _ (by omega) h
    obtain ⟨b1,b2⟩:=UI l _ (by omega) t
    exact ⟨by simp only[Raw.totL]; omega,a2,b2⟩
end
theorem P6:∀ {l:List Raw} {x:Raw},Raw.okL l→x∈l→Raw.ok x
  | y::l,x,h,hx=>by
    rcases List.mem_cons.1 hx with rfl|hx
    · exact h.1
    · exact P6 h.2 hx
theorem TK {l:List Raw} {y:Raw} (h:y∈l):y.depth≤Raw.By l:=by
  induction l with
  | nil=>cases h
  | cons a l ih =>
    simp only[Raw.By]
    rcases List.mem_cons.1 h with rfl|h
    · exact Nat.le_max_left _ _
    · exact Nat.le_trans (ih h) (Nat.le_max_right _ _)
theorem RV {x y:Raw} (h:y∈x.items):y.depth<x.depth:=by
  have:x.depth=Raw.By x.items+1:=by cases x; simp[Raw.depth]
  rw[this]
  exact Nat.lt_succ_of_le (TK h)

theorem RW:∀(ns seen:List aj) (n:aj),vU seen (ns ++ [n])=(vU seen ns&&((!(seen.contains n||ns.contains n))&&jt n))
  | [],seen,n=>by simp[vU]
  | m::ns,seen,n=>by
    simp only[List.cons_append,vU,RW ns (m::seen) n,List.contains_cons]
    cases seen.contains m <;> cases jt m <;> cases vU (m::seen) ns <;> cases n==m <;> cases seen.contains n <;> rfl

theorem UJ (t:aj):(RI t).length≤6*t.length+2:=by
  unfold RI
  have:∀l:aj,(l.flatMap qb).length≤6*l.length:=by
    intro l
    induction l with
    | nil=>simp
    | cons b l ih =>
      have:=qb_len b
      simp only[List.flatMap_cons,List.length_append,List.length_cons]
      omega
  have:=this t
  simp only[List.length_cons,List.length_append,List.length_nil]
  omega

theorem ZV {R:Type} (d q i:Int) (y:aj) (raw:Raw) (a1 a2 a3:Int) (a4:aj) (b1 b2 b3:Int) (b4:aj) (ns:List aj) (hl:ns.length≤1000000) (is:List Json) (ri:Raw) (e0):∀(F j:Nat) (b:Bool),j≤ns.length→ns.length - j<F →
    bA (R:=R) F d q i y b (j:Int) raw a1 a2 a3 a4 b1 b2 b3 b4 ns is ri e0=e0 d q i y (b||(ns.drop j).contains y) raw a1 a2 a3 a4 b1 b2 b3 b4 ns is ri:=by
  intro F
  induction F with
  | zero=>intro j b _ h; omega
  | succ F ih =>
    intro j b hj hF
    show tA (fun l0 l7 nj vj D1 D2 KA KB KC KD zT FC M0 M1 ZP ZQ ZR ZS=>bA F l0 l7 nj vj D1 D2 KA KB KC KD zT FC M0 M1 ZP ZQ ZR ZS e0) d q i y b (j:Int) raw a1 a2 a3 a4 b1 b2 b3 b4 ns is ri e0=_
    unfold tA
    simp only[Raw.eta]
    by_cases h:j<ns.length
    · have h1:decide ((j:Int)<(ns.length:Int))=true:=by simp; omega
      have h2:(decide ((0:Int)≤(j:Int))&&true)=true:=by simp
      have hw:IntKind.i64.wrap ((j:Int)+1)=((j+1:Nat):Int):=by rw[dD (by omega) (by omega)]; omega
      have hg:ns.getD (j:Int).toNat (Ty.cn .str)=ns[j]:=getD_at h _
      rw[h1,cond_true,aT h2,hg,hw,List.drop_eq_getElem_cons h,List.contains_cons]
      cases b with
      | true =>
        rw[cond_true,ih (j+1) true (by omega) (by omega)]
        rfl
      | false =>
        rw[cond_false,ih (j+1) _ (by omega) (by omega),Bool.false_or]
        have:(ns[j]==y)=(y==ns[j]):=by rw[Bool.eq_iff_iff,beq_iff_eq,beq_iff_eq]; exact eq_comm
        rw[this]
    · have h1:decide ((j:Int)<(ns.length:Int))=false:=by simp; omega
      rw[h1,cond_false,List.drop_eq_nil_of_le (by omega),List.contains_nil,Bool.or_false]

structure ZW (R:Type) (v:Json) (d:Int) (n:Nat):Prop where
  right:gB v d=true
  len:KI v=true
  size:(oe v).length+5000≤10000*n

theorem M7:∀(l:List Json) (x:Json) (b:Bool),(pn (l ++ [x]) b).length≤(pn l b).length+1+(oe x).length
  | [],x,b=>by cases b <;> simp[pn] <;> omega
  | y::l,x,b=>by
    have:=M7 l x false
    simp only[List.cons_append,pn,List.length_append]
    omega
theorem M8:∀(ns:List aj) (l:List Json) (n:aj) (x:Json) (b:Bool),ns.length=l.length→(oB (ns ++ [n]) (l ++ [x]) b).length≤(oB ns l b).length+2+(RI n).length+(oe x).length
  | [], [],n,x,b,_=>by cases b <;> simp[oB] <;> omega
  | m::ns,y::l,n,x,b,h=>by
    have:=M8 ns l n x false (by simpa using h)
    simp only[List.cons_append,oB,List.headD_cons,List.tail_cons,List.length_append,List.length_cons]
    omega
  | [],_::_,_,_,_,h=>by cases h
  | _::_, [],_,_,_,h=>by cases h
theorem Hs:∀(l:List Json) (x:Json) (d:Int),jj (l ++ [x]) d=(jj l d&&gB x d)
  | [],x,d=>by simp[jj]
  | y::l,x,d=>by simp only[List.cons_append,jj,Hs l x d,Bool.and_assoc]
theorem M9:∀(l:List Json) (x:Json),NS (l ++ [x])=(NS l&&KI x)
  | [],x=>by simp[NS]
  | y::l,x=>by simp only[List.cons_append,NS,M9 l x,Bool.and_assoc]
theorem totL_take (l:List Raw) (i:Nat) (h:i<l.length):Raw.totL (l.take (i+1))=Raw.totL (l.take i)+Raw.tot l[i]:=by
  induction l generalizing i with
  | nil=>cases h
  | cons y l ih =>
    cases i with
    | zero=>simp[Raw.totL]
    | succ i =>
      have:=ih i (by simpa using h)
      simp only[List.take_succ_cons,Raw.totL,List.getElem_cons_succ]
      omega
theorem totL_take_le (l:List Raw) (i:Nat):Raw.totL (l.take i)≤Raw.totL l:=by
  induction l generalizing i with
  | nil=>simp
  | cons y l ih =>
    cases i with
    | zero=>simp[Raw.totL]
    | succ i =>
      have:=ih i
      simp only[List.take_succ_cons,Raw.totL]
      omega

structure WG (q:Int) (d:Int) (ns:List aj) (is:List Json) (n:Nat):Prop where
  right:jj is (d+1)=true
  len:NS is=true
  count:is.length≤12
  names:(q=7∧ns.length=is.length∧vU [] ns=true∧(∀t∈ns,t.length≤1000)∧(oB ns is true).length≤10000*n)∨(q=6∧ns = []∧(pn is true).length≤10000*n)

theorem WG.fit {R:Type} {q d:Int} (hd:d≤16) {ns:List aj} {is:List Json} {n m:Nat} (h:WG q d ns is n) (hn:n≤m):ZW R ⟨q,⟨0,0⟩, [],ns,is⟩ d (m+1):=by
  obtain ⟨h1,h2,h3,h4⟩:=h
  rcases h4 with ⟨rfl,g1,g2,g3,g4⟩|⟨rfl,rfl,g4⟩
  · refine ⟨pk.2 (.obj ns is d hd g1 g2 h1),BL.2 ⟨by simp only; omega,by simp only; omega,h2,by simp,fun t ht=>by have:=g3 t ht; omega⟩,?_⟩
    show (123::(oB ns is true ++ [125]):aj).length+5000≤_
    simp only[List.length_cons,List.length_append,List.length_nil]
    omega
  · refine ⟨pk.2 (.arr is d hd h1),BL.2 ⟨by simp,by simp only; omega,h2,by simp,by simp⟩,?_⟩
    show (91::(pn is true ++ [93]):aj).length+5000≤_
    simp only[List.length_cons,List.length_append,List.length_nil]
    omega
end Go.Proofs.YtmlkkgfenfdndaaGreatDoor

/-
  Functions of the program as pure Lean functions, and the ties; printed by wip/tools/emit.py.
-/
set_option maxRecDepth 100000
namespace Go.Proofs.YtmlkkgfenfdndaaGreatDoor
open Go Go.ay

end Go.Proofs.YtmlkkgfenfdndaaGreatDoor

set_option maxRecDepth 100000
namespace Go.Proofs.YtmlkkgfenfdndaaGreatDoor
open Go Go.ay Go.Lib

theorem awake04 {R:Type} (k:Bool→Option R):jI k=k true:=by kernel_rfl

theorem pick04 {R:Type} (c n:Int) (hc:DR c) (h0:0<n) (hn:n≤9223372036854775807):∃r:Int,0≤r∧r<n∧∀k:Int→Option R,eT c n k=k r:=Mk c n hc h0 hn


theorem TL {R:Type} (jn:dv R) (d:Int) (hd:1≤d∧d≤16) (q:Int) (hq:q=6∨q=7) (raw:Raw) (hl:raw.items.length≤1048576) (rU:Raw.okL raw.items) (hf:d<16→∀x∈raw.items,∃v,ZW R v (d+1) (Raw.tot x)∧∀k:Json→Option R,jn x (d+1) k=k v) :
    ∀(F i:Nat) (ns:List aj) (is:List Json),i≤raw.items.length→raw.items.length - i<F→is.length≤i→WG q d ns is (Raw.totL (raw.items.take i)) →
    ∃K9 La,WG q d K9 La (Raw.totL raw.items)∧∀e0,bn jn F d q (i:Int) raw 0 0 0 [] q 0 0 [] ns is e0=e0 0 0 0 [] q 0 0 [] K9 La:=by
  intro F
  induction F with
  | zero=>intro i ns is _ h; omega
  | succ F ih =>
    intro i ns is hi hF hc hh
    have e1:∀e0,bn jn (F+1) d q (i:Int) raw 0 0 0 [] q 0 0 [] ns is e0=mc bZ jn bA (fun l0 l7 nj vj D1 D2 KA KB KC KD zT FC M0 M1=>bn jn F l0 l7 nj vj D1 D2 KA KB KC KD zT FC M0 M1 e0) d q (i:Int) raw 0 0 0 [] q 0 0 [] ns is e0:=fun e0=>rfl
    have stop:(∀e0,bn jn (F+1) d q (i:Int) raw 0 0 0 [] q 0 0 [] ns is e0=e0 0 0 0 [] q 0 0 [] ns is)→∃K9 La,WG q d K9 La (Raw.totL raw.items)∧∀e0,bn jn (F+1) d q (i:Int) raw 0 0 0 [] q 0 0 [] ns is e0=e0 0 0 0 [] q 0 0 [] K9 La:=fun h=>by
      refine ⟨ns,is,⟨hh.right,hh.len,hh.count,?_⟩,h⟩
      have hle:=totL_take_le raw.items i
      rcases hh.names with ⟨g1,g2,g3,g4,g5⟩|⟨g1,g2,g3⟩
      · exact .inl ⟨g1,g2,g3,g4,by omega⟩
      · exact .inr ⟨g1,g2,by omega⟩
    by_cases h:i<raw.items.length
    rotate_left
    · refine stop fun e0 => ?_
      rw[e1]
      unfold mc
      have h1:decide ((i:Int)<(raw.items.length:Int))=false:=by simp; omega
      rw[h1]
      rfl
    have h1:decide ((i:Int)<(raw.items.length:Int))=true:=by simp; omega
    by_cases h12:i<12
    rotate_left
    · refine stop fun e0 => ?_
      rw[e1]
      unfold mc
      have h2:decide ((i:Int)<12)=false:=by simp; omega
      rw[h1,h2]
      rfl
    have h2:decide ((i:Int)<12)=true:=by simp; omega
    by_cases RO:d<16
    rotate_left
    · refine stop fun e0 => ?_
      rw[e1]
      unfold mc
      have h3:decide (d<16)=false:=by simp; omega
      rw[h1,h2,h3]
      rfl
    have h3:decide (d<16)=true:=by simpa using RO
    have hw:IntKind.i64.wrap ((i:Int)+1)=((i+1:Nat):Int):=by rw[dD (by omega) (by omega)]; omega
    have hwd:IntKind.i64.wrap (d+1)=d+1:=dD (by omega) (by omega)
    have hg:raw.items.getD (i:Int).toNat (Ty.cn .raw)=raw.items[i]:=getD_at h _
    have hxok:=P6 rU (List.getElem_mem h)
    obtain ⟨v,hv,mI⟩:=hf RO raw.items[i] (List.getElem_mem h)
    generalize hx:raw.items[i]=x at *
    have Pg:∀c∈x.text,DR c:=by
      obtain ⟨k1,m1,T6,t1,is1⟩:=x
      exact hxok.1.2.2.2
    have hxl:x.text.length≤1048576:=by
      obtain ⟨k1,m1,T6,t1,is1⟩:=x
      exact hxok.2.1.1
    have W7:min (x.text.length:Int) 8=((min x.text.length 8:Nat):Int):=by omega
    obtain ⟨rs,r1,r2,r3,r4⟩:=Rj (R:=R) (x.text.take (min x.text.length 8)) (fun c hc=>Pg c (List.mem_of_mem_take hc))
    have G9:jt (cT rs)=true:=C8.2 ⟨rs,r1,rfl⟩
    have ZX:Raw.totL (raw.items.take (i+1))=Raw.totL (raw.items.take i)+Raw.tot x:=by rw[totL_take _ _ h,hx]
    have hqt:=UJ (cT rs)
    have e2:∀e0,bn jn (F+1) d q (i:Int) raw 0 0 0 [] q 0 0 [] ns is e0 =
        (bif (q==7)then (bA (Int.natAbs d+Int.natAbs q+Int.natAbs (i:Int)+List.length (cT rs)+Int.natAbs 0+Raw.fu raw+Int.natAbs 0+Int.natAbs 0+Int.natAbs 0+List.length ([]:aj)+Int.natAbs q+Int.natAbs 0+Int.natAbs 0+List.length ([]:aj)+List.length ns+List.length is+Raw.fu x+64) d q (i:Int) (cT rs) false 0 raw 0 0 0 [] q 0 0 [] ns is x (fun Oz Ro Rp WV V6 NM WY YY YZ Y0 WZ Y1 Y2 y55 V7 V8 V9=>bif V6 then (bn jn F Oz Ro (IntKind.i64.wrap (Rp+1)) NM WY YY YZ Y0 WZ Y1 Y2 y55 V7 V8 e0)else (cX (decide ((V7.length+1)*16≤140737488355328)) (jn V9 (IntKind.i64.wrap (Oz+1)) (fun Tm=>cX (decide ((V8.length+1)*88≤140737488355328)) (bn jn F Oz Ro (IntKind.i64.wrap (Rp+1)) NM WY YY YZ Y0 WZ Y1 Y2 y55 (V7++([WV]:List aj)) (V8++([Tm]:List Json)) e0))))))
        else (jn x (IntKind.i64.wrap (d+1)) (fun Un=>cX (decide ((is.length+1)*88≤140737488355328)) (bn jn F d q (IntKind.i64.wrap ((i:Int)+1)) raw 0 0 0 [] q 0 0 [] ns (is++([Un]:List Json)) e0)))):=fun e0=>by
      rw[e1]
      unfold mc
      simp only[Raw.eta,Json.eta]
      rw[h1,cond_true,h2,cond_true,h3,cond_true,aT (by simp),hg,W7,aT (by rw[bq (by omega),bq (by omega)]; rfl),aT (bq (by omega)),Int.toNat_natCast,List.drop_zero,Nat.sub_zero,r4]
    have c1:decide ((ns.length+1)*16≤140737488355328)=true:=by
      rw[decide_eq_true_eq]
      have:=hh.count
      rcases hh.names with ⟨_,g2,_⟩|⟨_,g2,_⟩
      · omega
      · rw[g2]; simp
    have c2:decide ((is.length+1)*88≤140737488355328)=true:=by
      rw[decide_eq_true_eq]
      have:=hh.count
      omega
    have qs:=hv.size
    rcases hq with rfl|rfl
    · -- an array
      rcases hh.names with ⟨g1,_⟩|⟨_,g2,g3⟩
      · cases g1
      have hpe:=M7 is v true
      obtain ⟨K9,La,hh',RX⟩:=ih (i+1) ns (is ++ [v]) (by omega) (by omega) (by simp; omega) ⟨by rw[Hs,hh.right,hv.right]; rfl,by rw[M9,hh.len,hv.len]; rfl,by simp; omega, .inr ⟨rfl,g2,by rw[ZX]; omega⟩⟩
      refine ⟨K9,La,hh',fun e0 => ?_⟩
      rw[e2]
      show jn x (IntKind.i64.wrap (d+1)) _=_
      rw[hwd,mI,aT c2,hw,RX]
    · -- an object
      rcases hh.names with ⟨_,g2,g3,g4,g5⟩|⟨g1,_⟩
      rotate_left
      · cases g1
      have hsl:=fun e=>ZV (R:=R) d 7 (i:Int) (cT rs) raw 0 0 0 [] 7 0 0 [] ns (by have:=hh.count; omega) is x e (Int.natAbs d+Int.natAbs 7+Int.natAbs (i:Int)+List.length (cT rs)+Int.natAbs 0+Raw.fu raw+Int.natAbs 0+Int.natAbs 0+Int.natAbs 0+List.length ([]:aj)+Int.natAbs 7+Int.natAbs 0+Int.natAbs 0+List.length ([]:aj)+List.length ns+List.length is+Raw.fu x+64) 0 false (by omega) (by omega)
      cases hcn:ns.contains (cT rs)with
      | true =>
        obtain ⟨K9,La,hh',RX⟩:=ih (i+1) ns is (by omega) (by omega) (by omega) ⟨hh.right,hh.len,hh.count, .inl ⟨rfl,g2,g3,g4,by rw[ZX]; omega⟩⟩
        refine ⟨K9,La,hh',fun e0 => ?_⟩
        rw[e2]
        refine (hsl _).trans ?_
        rw[List.drop_zero,hcn]
        show bn jn F d 7 (IntKind.i64.wrap ((i:Int)+1)) raw 0 0 0 [] 7 0 0 [] ns is e0=_
        rw[hw,RX]
      | false =>
        have hpe:=M8 ns is (cT rs) v true g2
        obtain ⟨K9,La,hh',RX⟩:=ih (i+1) (ns ++ [cT rs]) (is ++ [v]) (by omega) (by omega) (by simp; omega) ⟨by rw[Hs,hh.right,hv.right]; rfl,by rw[M9,hh.len,hv.len]; rfl,by simp; omega,
          .inl ⟨rfl,by simp[g2],by rw[RW,g3,hcn,G9]; rfl,fun t ht=>by
            rcases List.mem_append.1 ht with ht|ht
            · exact g4 t ht
            · simp only[List.mem_singleton]at ht
              rw[ht]; omega,by rw[ZX]; omega⟩⟩
        refine ⟨K9,La,hh',fun e0 => ?_⟩
        rw[e2]
        refine (hsl _).trans ?_
        rw[List.drop_zero,hcn]
        show cX (decide ((ns.length+1)*16≤140737488355328)) (jn x (IntKind.i64.wrap (d+1)) _)=_
        rw[aT c1,hwd,mI,aT c2,hw,RX]

theorem ZY {d:iO} (h:Fm d):(B7 d).length≤60:=by
  have e:B7 d=NL d:=by unfold B7; rw[IM.2 h]; rfl
  rw[e]
  exact (OH h).2.2

theorem fit_N {R:Type}:∀(n:Nat) (x:Raw) (d:Int),Raw.ok x→x.depth<n→1≤d→d≤16→∃v,ZW R v d (Raw.tot x)∧∀k:Json→Option R,jK n x d k=k v:=by
  intro n
  induction n with
  | zero=>intro x d _ h; omega
  | succ n ih =>
    intro x d hx hn hd1 Xd
    have e0:∀k:Json→Option R,jK (n+1) x d k=nP bZ di eT (bn (jK n)) x d k:=fun k=>rfl
    have hdep:∀z∈x.items,z.depth<n:=fun z hz=>by have:=RV hz; omega
    obtain ⟨kd,mt,ex,tx,is⟩:=x
    obtain ⟨⟨i1,i2,i3,i4⟩,⟨l1,l2⟩,i5⟩:=hx
    simp only at hdep
    have ZX:Raw.tot ⟨kd,mt,ex,tx,is⟩=Raw.totL is+1:=rfl
    obtain ⟨y,y0,y1,hy⟩:=pick04 (R:=R) kd 7 i1 (by omega) (by omega)
    have hw:IntKind.i64.wrap (1+y)=1+y:=dD (by omega) (by omega)
    have hq:y=0∨y=1∨y=2∨y=3∨y=4∨y=5∨y=6:=by omega
    have hlp:∀q:Int,q=6∨q=7→∃K9 La,WG q d K9 La (Raw.totL is)∧∀e0,bn (R:=R) (jK n) (Int.natAbs d+Int.natAbs q+Int.natAbs 0+Raw.fu ⟨kd,mt,ex,tx,is⟩+Int.natAbs 0+Int.natAbs 0+Int.natAbs 0+List.length ([]:aj)+Int.natAbs q+Int.natAbs 0+Int.natAbs 0+List.length ([]:aj)+List.length ([]:List aj)+List.length ([]:List Json)+64) d q ((0:Nat):Int) ⟨kd,mt,ex,tx,is⟩ 0 0 0 [] q 0 0 [] [] [] e0=e0 0 0 0 [] q 0 0 [] K9 La:=fun q hq=>by
      refine TL (jK n) d ⟨hd1,Xd⟩ q hq ⟨kd,mt,ex,tx,is⟩ l2 i5 (fun RO z hz=>ih z (d+1) (P6 i5 hz) (hdep z hz) (by omega) (by omega)) _ 0 [] [] (by omega) (by simp only[Raw.fu]; omega) (by simp) ⟨rfl,rfl,by simp,?_⟩
      rcases hq with rfl|rfl
      · exact .inr ⟨rfl,rfl,by simp[pn]⟩
      · exact .inl ⟨rfl,rfl,rfl,by simp,by simp[oB]⟩
    have Qc:∀q:Int,q=1∨q=2∨q=3→ZW R ⟨q,⟨0,0⟩, [], [], []⟩ d (Raw.totL is+1):=fun q hq=>by
      refine ⟨pk.2 (.name q d Xd hq),rfl,?_⟩
      rcases hq with rfl|rfl|rfl
      · show oZ.length+5000≤_
        have:oZ.length=4:=rfl
        omega
      · show ll.length+5000≤_
        have:ll.length=5:=rfl
        omega
      · show sc.length+5000≤_
        have:sc.length=4:=rfl
        omega
    rw[ZX]
    rcases hq with rfl|rfl|rfl|rfl|rfl|rfl|rfl
    · refine ⟨_,Qc 1 (by omega),fun k => ?_⟩
      rw[e0]
      unfold nP
      rw[hy]
      rfl
    · refine ⟨_,Qc 2 (by omega),fun k => ?_⟩
      rw[e0]
      unfold nP
      rw[hy]
      rfl
    · refine ⟨_,Qc 3 (by omega),fun k => ?_⟩
      rw[e0]
      unfold nP
      rw[hy]
      rfl
    · obtain ⟨dc,hdc,mI⟩:=fit_ok (R:=R) mt ex i2 i3
      refine ⟨⟨4,dc, [], [], []⟩,⟨pk.2 (.num dc d Xd hdc),rfl,?_⟩,fun k => ?_⟩
      · show (B7 dc).length+5000≤_
        have:=ZY hdc
        omega
      · rw[e0]
        unfold nP
        rw[hy]
        show di mt ex _=_
        rw[mI]
        rfl
    · have W7:min (tx.length:Int) 20=((min tx.length 20:Nat):Int):=by omega
      obtain ⟨rs,r1,r2,r3,r4⟩:=Rj (R:=R) (tx.take (min tx.length 20)) (fun c hc=>i4 c (List.mem_of_mem_take hc))
      have hqt:=UJ (cT rs)
      refine ⟨⟨5,⟨0,0⟩,cT rs, [], []⟩,⟨pk.2 (.text _ d Xd (C8.2 ⟨rs,r1,rfl⟩)),BL.2 ⟨by simp,by simp,rfl,by simp only; omega,by simp⟩,?_⟩,fun k => ?_⟩
      · show (RI (cT rs)).length+5000≤_
        omega
      · rw[e0]
        unfold nP
        rw[hy]
        show cX (decide ((0:Int)≤(min (tx.length:Int) 20))&&decide ((min (tx.length:Int) 20)≤(tx.length:Int))) (cX (decide ((0:Int)≤(min (tx.length:Int) 20))) (bZ ((tx.drop 0).take ((min (tx.length:Int) 20).toNat - 0)) _))=_
        rw[W7,aT (by rw[bq (by omega),bq (by omega)]; rfl),aT (bq (by omega)),Int.toNat_natCast,List.drop_zero,Nat.sub_zero,r4]
        rfl
    · obtain ⟨K9,La,hh,mI⟩:=hlp 6 (.inl rfl)
      refine ⟨_,hh.fit Xd (Nat.le_refl _),fun k => ?_⟩
      rw[e0]
      unfold nP
      rw[hy]
      exact mI _
    · obtain ⟨K9,La,hh,mI⟩:=hlp 7 (.inr rfl)
      refine ⟨_,hh.fit Xd (Nat.le_refl _),fun k => ?_⟩
      rw[e0]
      unfold nP
      rw[hy]
      exact mI _

theorem jfit {R:Type} (x:Raw) (hx:Raw.ok x) (d:Int) (h1:1≤d) (h2:d≤16):∃v,ZW R v d (Raw.tot x)∧∀k:Json→Option R,me x d k=k v:=fit_N (x.depth+2) x d hx (by omega) h1 h2

theorem ZZ {R:Type} (a b:List aj) (hl:a.length=b.length) (ha:a.length≤1099511627776) (k:Bool→Option R):∀(F i:Nat),i≤a.length→a.length - i<F →
    aS F a b (a.length:Int) (i:Int) (k true) k=k (decide (a.drop i=b.drop i)):=by
  intro F
  induction F with
  | zero=>intro i _ h; omega
  | succ F ih =>
    intro i hi hF
    show iB (fun x0 x1 x2 x3=>aS F x0 x1 x2 x3 _ _) a b (a.length:Int) (i:Int) _ _=_
    unfold iB
    by_cases h:i<a.length
    · have hb:i<b.length:=by omega
      have h1:decide ((i:Int)<(a.length:Int))=true:=by simp; omega
      have h2:(decide ((0:Int)≤(i:Int))&&true)=true:=by simp
      have h3:(decide ((0:Int)≤(i:Int))&&decide ((i:Int)<(b.length:Int)))=true:=by simp; omega
      have hw:IntKind.i64.wrap ((i:Int)+1)=((i+1:Nat):Int):=by rw[dD (by omega) (by omega)]; omega
      have hg:a.getD (i:Int).toNat (Ty.cn .str)=a[i]:=getD_at h _
      have hg':b.getD (i:Int).toNat (Ty.cn .str)=b[i]:=getD_at hb _
      rw[h1,cond_true,aT h2,aT h3,hg,hg',hw,List.drop_eq_getElem_cons h,List.drop_eq_getElem_cons hb]
      by_cases hq:a[i]=b[i]
      · have e:(a[i]==b[i])=true:=by simpa using hq
        rw[e,Bool.not_true,cond_false]
        simp only[List.cons.injEq,hq,true_and]
        exact ih (i+1) (by omega) (by omega)
      · have e:(a[i]==b[i])=false:=by simpa using hq
        rw[e,Bool.not_false,cond_true]
        have j7:¬(a[i]::a.drop (i+1)=b[i]::b.drop (i+1)):=fun h=>hq (List.cons.inj h).1
        rw[decide_eq_false j7]
    · have h1:decide ((i:Int)<(a.length:Int))=false:=by simp; omega
      rw[h1,cond_false,List.drop_eq_nil_of_le (by omega),List.drop_eq_nil_of_le (by omega)]
      simp
theorem WH {R:Type} (a b:List aj) (ha:a.length≤1099511627776) (k:Bool→Option R):ca a b k=k (decide (a=b)):=by
  have e:ca a b k=bif ((a.length:Int) != (b.length:Int))then (k false)else (aS (List.length a+List.length b+Int.natAbs (a.length:Int)+Int.natAbs 0+64) a b (a.length:Int) 0 (k true) (fun y7=>k y7)):=rfl
  rw[e]
  by_cases hl:a.length=b.length
  · have h1:((a.length:Int) != (b.length:Int))=false:=by rw[hl]; simp
    have:=ZZ a b hl ha k (List.length a+List.length b+Int.natAbs (a.length:Int)+Int.natAbs 0+64) 0 (by omega) (by omega)
    rw[h1,cond_false]
    rw[List.drop_zero,List.drop_zero]at this
    exact this
  · have h1:((a.length:Int) != (b.length:Int))=true:=by simp; omega
    have:a≠b:=fun e=>hl (by rw[e])
    rw[h1,cond_true]
    simp[this]

theorem Z0 {R:Type} (f:cE R) (a b:List Json) (hl:a.length=b.length) (ha:a.length≤1099511627776) (hf:∀x∈a,∀y∈b,∃r:Bool,(r=true↔x=y)∧∀k,f x y k=k r):∀(F i:Nat),i≤a.length→a.length - i<F →
    ∃r:Bool,(r=true↔a.drop i=b.drop i)∧∀k:Bool→Option R,aw f F b a (a.length:Int) (i:Int) (k true) k=k r:=by
  intro F
  induction F with
  | zero=>intro i _ h; omega
  | succ F ih =>
    intro i hi hF
    by_cases h:i<a.length
    · have hb:i<b.length:=by omega
      have h1:decide ((i:Int)<(a.length:Int))=true:=by simp; omega
      have h2:(decide ((0:Int)≤(i:Int))&&true)=true:=by simp
      have h3:(decide ((0:Int)≤(i:Int))&&decide ((i:Int)<(b.length:Int)))=true:=by simp; omega
      have hw:IntKind.i64.wrap ((i:Int)+1)=((i+1:Nat):Int):=by rw[dD (by omega) (by omega)]; omega
      have hg:a.getD (i:Int).toNat (Ty.cn .json)=a[i]:=getD_at h _
      have hg':b.getD (i:Int).toNat (Ty.cn .json)=b[i]:=getD_at hb _
      obtain ⟨r,hr,hk⟩:=hf a[i] (List.getElem_mem h) b[i] (List.getElem_mem hb)
      obtain ⟨r2,hr2,GU⟩:=ih (i+1) (by omega) (by omega)
      refine ⟨r&&r2,?_,fun k => ?_⟩
      · rw[List.drop_eq_getElem_cons h,List.drop_eq_getElem_cons hb]
        simp only[Bool.and_eq_true,hr,hr2,List.cons.injEq]
      · show cV f (fun x0 x1 x2 x3=>aw f F x0 x1 x2 x3 (k true) k) b a (a.length:Int) (i:Int) (k true) k=_
        unfold cV
        simp only[Json.eta]
        rw[h1,cond_true,aT h2,aT h3,hg,hg',hk,hw,GU]
        cases r <;> rfl
    · refine ⟨true,?_,fun k => ?_⟩
      · rw[List.drop_eq_nil_of_le (by omega),List.drop_eq_nil_of_le (by omega)]
        simp
      · show cV f (fun x0 x1 x2 x3=>aw f F x0 x1 x2 x3 (k true) k) b a (a.length:Int) (i:Int) (k true) k=_
        unfold cV
        have h1:decide ((i:Int)<(a.length:Int))=false:=by simp; omega
        rw[h1]
        rfl
theorem WI {R:Type} (f:cE R) (a b:List Json) (ha:a.length≤1099511627776) (hf:∀x∈a,∀y∈b,∃r:Bool,(r=true↔x=y)∧∀k,f x y k=k r) :
    ∃r:Bool,(r=true↔a=b)∧∀k:Bool→Option R,bh f a b k=k r:=by
  have e:∀k,bh f a b k=bif ((a.length:Int) != (b.length:Int))then (k false)else (aw f (List.length b+List.length a+Int.natAbs (a.length:Int)+Int.natAbs 0+64) b a (a.length:Int) 0 (k true) (fun y8=>k y8)):=fun k=>rfl
  by_cases hl:a.length=b.length
  · have h1:((a.length:Int) != (b.length:Int))=false:=by rw[hl]; simp
    obtain ⟨r,hr,hk⟩:=Z0 f a b hl ha hf (List.length b+List.length a+Int.natAbs (a.length:Int)+Int.natAbs 0+64) 0 (by omega) (by omega)
    rw[List.drop_zero,List.drop_zero]at hr
    refine ⟨r,hr,fun k => ?_⟩
    rw[e,h1,cond_false]
    exact hk k
  · have h1:((a.length:Int) != (b.length:Int))=true:=by simp; omega
    refine ⟨false,?_,fun k => ?_⟩
    · constructor
      · intro h; cases h
      · rintro rfl; exact (hl rfl).elim
    · rw[e,h1,cond_true]

theorem jsame_N {R:Type}:∀(n:Nat) (v w:Json),KI v=true→v.depth<n→∃r:Bool,(r=true↔v=w)∧∀k:Bool→Option R,kB n v w k=k r:=by
  intro n
  induction n with
  | zero=>intro v w _ h; omega
  | succ n ih =>
    intro v w hl hd
    obtain ⟨Hv,Ke,Vp,_⟩:=BL.1 hl
    obtain ⟨r,hr,hk⟩:=WI (R:=R) (kB n) v.items w.items Ke fun x hx y _=>ih x y (FA Vp hx) (by have:=FB hx; omega)
    have e0:∀k:Bool→Option R,kB (n+1) v w k=Cw (bh (kB n)) ca v w k:=fun k=>rfl
    obtain ⟨k1,⟨m1,x1⟩,t1,ns1,is1⟩:=v
    obtain ⟨k2,⟨m2,x2⟩,t2,ns2,is2⟩:=w
    refine ⟨(k1==k2)&&((m1==m2&&(x1==x2&&true))&&((t1==t2)&&(decide (ns1=ns2)&&r))),?_,fun k => ?_⟩
    · simp only[Bool.and_eq_true,beq_iff_eq,decide_eq_true_eq,hr,Json.mk.injEq,iO.mk.injEq]
      constructor
      · rintro ⟨h1,⟨h2,h3,_⟩,h4,h5,h6⟩; exact ⟨h1,⟨h2,h3⟩,h4,h5,h6⟩
      · rintro ⟨h1,⟨h2,h3⟩,h4,h5,h6⟩; exact ⟨h1,⟨h2,h3,trivial⟩,h4,h5,h6⟩
    · rw[e0]
      unfold Cw
      simp only
      rw[WH ns1 ns2 Hv]
      simp only[hk]
      cases k1==k2 <;> cases (m1==m2&&(x1==x2&&true)) <;> cases t1==t2 <;> cases decide (ns1=ns2) <;> rfl

theorem jsame {R:Type} (v w:Json) (hl:KI v=true):∃r:Bool,(r=true↔v=w)∧∀k:Bool→Option R,eS v w k=k r:=jsame_N (v.depth+2) v w hl (by omega)
end Go.Proofs.YtmlkkgfenfdndaaGreatDoor

/-
  Functions of the program as pure Lean functions, and the ties; printed by wip/tools/emit.py.
-/
set_option maxRecDepth 100000
namespace Go.Proofs.YtmlkkgfenfdndaaGreatDoor
open Go Go.ay

end Go.Proofs.YtmlkkgfenfdndaaGreatDoor

/-
  Functions of the program as pure Lean functions, and the ties; printed by wip/tools/emit.py.
-/
set_option maxRecDepth 100000
namespace Go.Proofs.YtmlkkgfenfdndaaGreatDoor
open Go Go.ay

end Go.Proofs.YtmlkkgfenfdndaaGreatDoor

/-
  Functions of the program as pure Lean functions, and the ties; printed by wip/tools/emit.py.
-/
set_option maxRecDepth 100000
namespace Go.Proofs.YtmlkkgfenfdndaaGreatDoor
open Go Go.ay

end Go.Proofs.YtmlkkgfenfdndaaGreatDoor

/-
  Functions of the program as pure Lean functions, and the ties; printed by wip/tools/emit.py.
-/
set_option maxRecDepth 100000
namespace Go.Proofs.YtmlkkgfenfdndaaGreatDoor
open Go Go.ay

/-! ### humpyard/humpyardlaw04.JsonBack -/
abbrev Cx (R:Type):Type:=Raw→(Bool→Option R)→Option R
abbrev tD:List bP := [.agg [.int .i64, .int .i64, .int .i64, .sl (.int .i64), .sl .raw]]
abbrev tE:List aI := []
noncomputable def Cy {R:Type} (fn:Cx R):bP.av tD→aI.av tE→(V→az→Option R)→Option R:=fun x y k=>fn (⟨x.1.1,x.1.2.1,x.1.2.2.1,x.1.2.2.2.1,x.1.2.2.2.2.1⟩:Raw) (fun q0=>k (.bool q0) [])
noncomputable def tF (R:Type) (me:dv R) (jI:sY R) (eg:nN R) (ew:nM R) (cG:jM R) (eS:cE R):Env R:=fun i=>match i with
  | 16=>some (true,(aA o5 o6 (lB me) bg))
  | 30=>some (true,(aA yX yY (FF jI) bg))
  | 20=>some (true,(aA xn xo (CO eg) bg))
  | 17=>some (true,(aA w6 w7 (CH ew) bg))
  | 32=>some (true,(aA tm tp (yQ cG) bg))
  | 21=>some (true,(aA lL lM (iq eS) bg))
  | _=>none
theorem Ht (R:Type):pK Tryz.prog (tF R me jI eg ew cG eS):=by
  intro i b sp h
  unfold tF at h
  split at h
  · cases h; exact ⟨(M5 R _ (aO _)),fun h=>nomatch h⟩
  · cases h; exact ⟨(JP R _ (aO _)),fun h=>nomatch h⟩
  · cases h; exact ⟨(Er R _ (aO _)),fun h=>nomatch h⟩
  · cases h; exact ⟨(Em R _ (aO _)),fun h=>nomatch h⟩
  · cases h; exact ⟨(zP R _ (aO _)),fun h=>nomatch h⟩
  · cases h; exact ⟨(FE R _ (aO _)),fun h=>nomatch h⟩
  · cases h

noncomputable def Dt (R:Type):Nat→Option (Hint × cp R):=fun i=>match i with
  | _=>none

noncomputable def tG {R:Type} (me:dv R) (jI:sY R) (eg:nN R) (ew:nM R) (cG:jM R) (eS:cE R) (x1:Raw) (k0:Bool→Option R):Option R :=
  jI (fun y2=>me (⟨x1.kind,x1.aB,x1.exp,x1.text,x1.items⟩:Raw) 1 (fun y3=>ew (⟨y3.kind,⟨y3.num.aB,y3.num.exp⟩,y3.text,y3.names,y3.items⟩:Json) (fun y4=>bif (decide ((y4.length:Int)>(20000:Int)))then (k0 y2)else (eg y4 (fun y5 y6 y7=>bif y2 then (bif (!(y4==([]:aj)))then (cG (⟨y3.kind,⟨y3.num.aB,y3.num.exp⟩,y3.text,y3.names,y3.items⟩:Json) (fun y8=>bif y8 then (bif (y6==0)then (bif (y7==0)then (eS (⟨y3.kind,⟨y3.num.aB,y3.num.exp⟩,y3.text,y3.names,y3.items⟩:Json) (⟨y5.kind,⟨y5.num.aB,y5.num.exp⟩,y5.text,y5.names,y5.items⟩:Json) (fun y9=>k0 y9))else (k0 false))else (k0 false))else (k0 false)))else (k0 false))else (k0 false))))))
noncomputable def s4 {R:Type}:Cx R:=fun x1 k0=>tG me jI eg ew cG eS x1 k0
theorem IV {R:Type} (me:dv R) (jI:sY R) (eg:nN R) (ew:nM R) (cG:jM R) (eS:cE R) (x1:Raw) (k:V→az→Option R):iE tt (tF R me jI eg ew cG eS) (Dt R) false Tryz.f10 (aL Tryz.f10) [.agg [.int .i64 x1.kind, .int .i64 x1.aB, .int .i64 x1.exp, .sl (.int .i64) x1.text .no, .sl .raw x1.items .no]] [] k =
    tG me jI eg ew cG eS x1 (fun q0=>k (.bool q0) []):=by kernel_rfl
theorem FI (R:Type):∀a∈aQ (aL Tryz.f10),cO tt (tF R me jI eg ew cG eS) (Dt R) 0 a:=by
  refine bF 0 (by kernel_rfl) fun i hi => ?_
  omega
theorem Gm (R:Type) (other:ay.Spec R) (ho:ay.Spec.Ok Tryz.prog 10 other):ay.Spec.Ok Tryz.prog 10 (aA tD tE (Cy s4) other) :=
  bu ho (bj TT mixed (Ht R) (keep:=false) rfl rfl rfl rfl 0 (FI R)) fun (x:bP.av tD) (y:aI.av tE) k=>IV me jI eg ew cG eS (⟨x.1.1,x.1.2.1,x.1.2.2.1,x.1.2.2.2.1,x.1.2.2.2.2.1⟩:Raw) k

end Go.Proofs.YtmlkkgfenfdndaaGreatDoor

/-
  Functions of the program as pure Lean functions, and the ties; printed by wip/tools/emit.py.
-/
set_option maxRecDepth 100000
namespace Go.Proofs.YtmlkkgfenfdndaaGreatDoor
open Go Go.ay

end Go.Proofs.YtmlkkgfenfdndaaGreatDoor

set_option maxRecDepth 100000
namespace Go.Proofs.YtmlkkgfenfdndaaGreatDoor
open Go Go.ay Go.Lib

theorem Z1 {x:Raw} (h:∃n,Ni n (Ty.cells .raw x)∧n≤1048576):Raw.ok x∧Raw.tot x≤1048576:=by
  obtain ⟨n,h1,h2⟩:=h
  obtain ⟨g1,g2⟩:=ZU x n h2 h1
  exact ⟨g2,by omega⟩
theorem NW {R:Type} (x:Raw) (h:∃n,Ni n (Ty.cells .raw x)∧n≤1048576) (k:Bool→Option R):s4 x k=k true:=by
  obtain ⟨o1,t1⟩:=Z1 h
  obtain ⟨v,hv,rv⟩:=jfit (R:=R) x o1 1 (by omega) (by omega)
  have e:s4 x k=tG me jI eg ew cG eS x k:=rfl
  rw[e]
  unfold tG
  simp only[Raw.eta,Json.eta]
  have pv:=fun q:aj→Option R=>TH v hv.right hv.len (by have:=hv.size; omega) q
  have j7:(oe v==([]:aj))=false:=by simpa using ZN v hv.right
  obtain ⟨r,hr,hs⟩:=jsame (R:=R) v v hv.len
  have hr':r=true:=hr.2 rfl
  rw[awake04,rv,pv]
  by_cases hl:(oe v).length>20000
  · have e1:decide (((oe v).length:Int)>20000)=true:=by simp; omega
    rw[e1]
    rfl
  · have e1:decide (((oe v).length:Int)>20000)=false:=by simp; omega
    have hp:=RT hv.right (by omega)
    rw[e1,cond_false,WB,hp,cond_true,j7,Bool.not_false,cond_true,MP v hv.len,hv.right,cond_true]
    show eS v v (fun y9=>k y9)=_
    rw[hs,hr']
end Go.Proofs.YtmlkkgfenfdndaaGreatDoor

set_option maxRecDepth 100000
namespace Go.Proofs.YtmlkkgfenfdndaaGreatDoor.jsonBack
open Go.ChangeShapes Go.WideShapes Go.ChangeAt Go.RowKit Go.ay Door

theorem run (a0:Raw):aA tD tE (Cy s4) bg [.agg [.int .i64 a0.kind, .int .i64 a0.aB, .int .i64 a0.exp, .sl (.int .i64) a0.text .no, .sl .raw a0.items .no]] [] kOk=s4 a0 (fun q0=>kOk (.bool q0) []):=by kernel_rfl

theorem Z2 (H:Type) (enc:TypeId × Value→H) (W:World) (base:Nat) (args:Array Value) (ds gs:List (DataW H)) (before:List MemPlace)
    (G9:∀(j:Nat) t v,Tryz.f10.params[j]? = some t→args[j]? = some v→Value.okWide Tryz.prog W .any base t v)
    (hW:DataW.Whole enc Tryz.prog Tryz.f10.params.toList Rows.jsonBackSpec.vars false W args.toList ds gs before) (hL:laidMetH Tryz.prog Rows.jsonBackUptoRow.laid W) (hk:Rows.uptoSmall H (ds++gs)=true) :
    Calls Tryz.prog 10 args W fun e W'=>∃v,e = .returned v∧Rows.jsonBackSpec.post enc Tryz.prog Tryz.f10 false true false false W args v W':=by
  have hW':=hW
  obtain ⟨p,q,hA0,hV,hpq,TW,Et⟩:=hW
  have hA:DataW.TrodAll enc Tryz.prog W 0 (fun _=>true) true [25] args.toList ds p:=hA0
  have G9:∀(j:Nat) t v,(#[25]:Array Nat)[j]? = some t→args[j]? = some v→Value.okWide Tryz.prog W .any base t v:=G9
  obtain ⟨v0,vs0,d0,ds0,p0,q0,T9,rfl,rfl,h0,r0⟩:=trodAll_cons hA
  obtain ⟨rfl,rfl,rfl⟩:=trodAll_nil r0
  obtain rfl:args = #[v0]:=by cases args; simp_all
  have hV':DataW.TrodVars enc Tryz.prog W (fun _=>true) [] gs q:=hV
  obtain ⟨rfl,rfl⟩:=trodVars_none hV'
  have hb:Rows.uptoBulkAll ([d0] ++ [])≤1048576:=of_decide_eq_true hk
  simp only[List.append_nil,Rows.uptoBulkAll]at hb
  obtain ⟨a0,q0,s0⟩:=ZO (T := .raw) (N:=1048576) leaves (by kernel_rfl) (by kernel_rfl) (G9 0 25 v0 rfl rfl) h0 (by omega) (Nat.le_of_ble_eq_true rfl)
  have ra:cH W [] L9 [.agg [.int .i64 a0.kind, .int .i64 a0.aB, .int .i64 a0.exp, .sl (.int .i64) a0.text .no, .sl .raw a0.items .no]] #[v0].toList:=(.cons q0 .nil)
  obtain ⟨hsays,hblocks⟩:=lay_met (W:=W) hL
  refine (SV Tryz.func10 rfl rfl (Gm Unit _ (aO _)) hsays hblocks ra ((run a0).trans (NW a0 s0 (fun q0=>kOk (.bool q0) [])))).mono fun e W' ⟨he,L⟩=>⟨_,he,?_⟩
  exact VS (by kernel_rfl) (VR (by kernel_rfl)) rfl rfl rfl (show Tryz.prog.underlying 4=some .bool by kernel_rfl) hW' L

theorem reads (os:Os) {H:Type} (enc:TypeId × Value→H):(DataW.whole enc Tryz.prog ((Jl os).forCall (fun _ _=>0) ⟨#[], #[.agg #[.int .i64 0, .int .i64 0, .int .i64 0, .slice none 0 0, .slice none 0 0]], []⟩).memory Tryz.f10.params.toList Rows.jsonBackSpec.vars false (#[.agg #[.int .i64 0, .int .i64 0, .int .i64 0, .slice none 0 0, .slice none 0 0]]:Array Value).toList 8).map (fun x=>(x.1,x.2.1))=some ([.agg [.lit (.int .i64 0), .lit (.int .i64 0), .lit (.int .i64 0), .nil, .nil]], []):=by kernel_rfl
theorem lifted (os:Os) (started:os.Started) (H:Type) (enc:TypeId × Value→H) (F:Stop.Interp) :
    ReturnsInHanded {} Tryz.checked os 10 .any ((Rows.OpenSpec.upto Rows.jsonBackSpec).preRow enc Tryz.prog Tryz.f10 Rows.jsonBackUptoRow.domain false Rows.jsonBackUptoRow.laid) (((Rows.OpenSpec.upto Rows.jsonBackSpec).at F).post enc Tryz.prog Tryz.f10 false true false false):=by
  obtain ⟨⟨x1,x2,x3⟩,hx,hx1⟩:=Option.map_eq_some_iff.1 (reads os enc)
  simp only[Prod.mk.injEq]at hx1
  obtain ⟨rfl,rfl⟩:=hx1
  refine returnsInHanded_of_row (C:=Tryz.checked) (s:=Rows.OpenSpec.upto Rows.jsonBackSpec) own started (by kernel_rfl) Tryz.func10
    (witness_row_atRef (enc:=enc) (C:=Tryz.checked) false (Jl os) #[.agg #[.int .i64 0, .int .i64 0, .int .i64 0, .slice none 0 0, .slice none 0 0]] rfl (by kernel_rfl) (by kernel_rfl) (by kernel_rfl)
      (OpenSpec.preRow_of_cond 8 hx (by kernel_rfl) (fun k hk=>by cases hk; kernel_rfl) (by kernel_rfl) (YB os _))) ?_
  intro W base args ds gs before G9 hW _ wD _ hL _ _
  exact Z2 H enc W base args ds gs before G9 hW hL (wD _ rfl)

theorem Z3:Rows.JsonBackUptoSaid :=
  OpenClaim.holds_of_cond 10 Tryz.f10 rfl rfl rfl rfl rfl rfl rfl ⟨rfl,rfl,rfl,rfl,rfl⟩ rfl rfl rfl rfl rfl (by kernel_rfl) Tryz.func10 (by kernel_rfl)
    (of_decide_eq_true (by kernel_rfl)) (by unfold Func.isWrapper; first|(rw[if_pos (by decide +kernel)]; kernel_rfl)|(rw[if_neg (by decide +kernel)]; exact ⟨rfl,rfl⟩))
    (fun os started H enc _ F=>by rw[OpenClaim.pre_eq_preRow]; exact lifted os started H enc F)

theorem plain (f:FuncId) (fn:Func) (hf:Tryz.pinned.checked.prog.funcNamed "humpyard/humpyardlaw04.JsonBack" = some f) (hfn:Tryz.pinned.checked.prog.funcs[f]? = some fn) :
    true=Tryz.pinned.checked.prog.looks []∧∀(j:Nat) t,fn.params[j]? = some t→Tryz.pinned.checked.prog.wantsStandIn t=false:=by
  obtain rfl:f=10:=Option.some.inj ((show Tryz.prog.funcNamed "humpyard/humpyardlaw04.JsonBack" = some 10 by kernel_rfl).symm.trans hf) |>.symm
  obtain rfl:fn=Tryz.f10:=(Option.some.inj (Tryz.func10.symm.trans hfn)).symm
  refine ⟨by kernel_rfl,fun j t ht => ?_⟩
  have ze:Tryz.f10.params.toList.all (fun t => !Tryz.prog.wantsStandIn t)=true:=by kernel_rfl
  have hm:t∈Tryz.f10.params.toList:=Array.mem_toList_iff.2 (Array.mem_of_getElem? ht)
  have:=List.all_eq_true.1 ze t hm
  exact (show Tryz.prog.wantsStandIn t=false by simpa using this)
end Go.Proofs.YtmlkkgfenfdndaaGreatDoor.jsonBack
namespace Go.Proofs.YtmlkkgfenfdndaaGreatDoor
open Go.RowKit
theorem jsonBack_card_upto:Rows.JsonBackUptoCardSaid :=
  Claim7.holds_tied_plain_at .later [] _ _ _ _ jsonBack.Z3 (fun _ h=>by cases h) (by kernel_rfl) (fun _ h=>by cases h) jsonBackUpto_row_tie rfl ⟨rfl,rfl⟩ (by kernel_rfl) rfl jsonBack.plain (by kernel_rfl)
end Go.Proofs.YtmlkkgfenfdndaaGreatDoor

