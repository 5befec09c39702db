/-
  JsonWords, part 9 of 9.
-/
import Derived.Test.YtmlkkgfenfdndaaGreatDoorJsonWordsB8
set_option linter.unusedSimpArgs false
set_option linter.unnecessarySimpa false
set_option linter.unusedVariables false
set_option linter.unusedSectionVars false
noncomputable section
set_option maxRecDepth 100000
namespace Go.Proofs.YtmlkkgfenfdndaaGreatDoor
open Go Go.aG Go.Lib
mutual
def Raw.tot:Raw→Nat
 | ⟨_,_,_,_,is⟩=>Raw.totL is+1
def Raw.totL:List Raw→Nat
 | []=>0
 | x::l=>Raw.tot x+Raw.totL l
end
mutual
def Raw.ok:Raw→Prop
 | ⟨k,m,e,t,is⟩=>(G3 k∧G3 m∧G3 e∧∀c∈t,G3 c)∧(t.length≤1048576∧is.length≤1048576)∧Raw.okL is
def Raw.okL:List Raw→Prop
 | []=>True
 | x::l=>Raw.ok x∧Raw.okL l
end
theorem Qf {T:Ty}:∀(l:List T.den) (m:Nat),SP m (l.map T.cells)→(∀(x:T.den) n,SQ n (T.cells x)→1≤n)→l.length≤m
 | [],_,_,_=>Nat.zero_le _
 | x::l,_, .cons h t,hh=>by
  have h1:=hh x _ h
  have h2:=Qf l _ t hh
  simp only[List.length_cons]
  omega
theorem wt_pos {n:Nat} {v:V} (h:Wt n v):1≤n:=by
 cases h <;> omega
theorem YE:∀(l:List (Ty.den (.int .i64))) (m:Nat),SP m (l.map (Ty.cells (.int .i64)))→∀c∈(l:List Int),G3 c
 | [],_,_,c,hc=>by cases hc
 | x::l,_, .cons h t,c,hc=>by
  rcases List.mem_cons.1 hc with rfl|hc
  ·have h':SQ _ [V.int .i64 c]:=h
   cases h' with
   | cons a b=>cases a with|int _ hk=>exact Ml.1 hk
  ·exact YE l _ t c hc
mutual
theorem wt_raw:∀(x:Raw) (n:Nat),n≤1048576→SQ n (Ty.cells .raw x)→Raw.tot x≤n∧Raw.ok x
 | ⟨k,m,e,t,is⟩,n,hn,h=>by
  have hL:=wt_rawL is
  have h':SQ n [.int .i64 k, .int .i64 m, .int .i64 e, .sl (.int .i64) t .no, .sl .raw is .no]:=h
  cases h' with
  | cons a1 h'=>cases h' with
   | cons a2 h'=>cases h' with
    | cons a3 h'=>cases h' with
     | cons a4 h'=>cases h' with
      | cons a5 h' =>
       cases h'
       cases a1 with|int p1 k1 =>
       cases a2 with|int p2 k2 =>
       cases a3 with|int p3 k3 =>
       cases a4 with|sl p4 w4 =>
       cases a5 with|sl p5 w5 =>
       have hl4:=Qf (T := .int .i64) t _ w4 (fun x n h=>by
        have h':SQ n [V.int .i64 x]:=h
        cases h' with|cons a b=>have:=wt_pos a; omega)
       have hl5:=Qf (T := .raw) is _ w5 (fun x n h=>by
        have h':SQ n (.int .i64 x.kind::_):=h
        cases h' with|cons a b=>have:=wt_pos a; omega)
       obtain ⟨g1,g2⟩:=hL _ (by omega) w5
       refine ⟨by simp only[Raw.tot]; omega,⟨Ml.1 k1,Ml.1 k2,Ml.1 k3,YE t _ w4⟩,⟨Nat.le_trans hl4 (by omega),Nat.le_trans hl5 (by omega)⟩,g2⟩
theorem wt_rawL:∀(l:List Raw) (n:Nat),n≤1048576→SP n (l.map (Ty.cells .raw))→Raw.totL l≤n∧Raw.okL l
 | [],_,_,_=>⟨Nat.zero_le _,trivial⟩
 | x::l,_,hn, .cons h t=>by
  obtain ⟨a1,a2⟩:=wt_raw x _ (by omega) h
  obtain ⟨b1,b2⟩:=wt_rawL l _ (by omega) t
  exact ⟨by simp only[Raw.totL]; omega,a2,b2⟩
end
theorem uniq_end:∀(ns seen:List ah) (n:ah),EW seen (ns ++ [n])=(EW seen ns&&((!(seen.contains n||ns.contains n))&&pd n))
 | [],seen,n=>by simp[EW]
 | m::ns,seen,n=>by
  simp only[List.cons_append,EW,uniq_end ns (m::seen) n,List.contains_cons]
  cases seen.contains m <;> cases pd m <;> cases EW (m::seen) ns <;> cases n==m <;> cases seen.contains n <;> rfl
theorem Qg (t:ah):(qtS t).length≤6*t.length+2:=by
 unfold qtS
 have:∀l:ah,(l.flatMap qb).length≤6*l.length:=by
  intro l
  induction l with
  | nil=>simp
  | cons b l ih =>
   have:=qb_len b
   simp only[List.flatMap_cons,List.length_append,List.length_cons]
   omega
 have:=this t
 simp only[List.length_cons,List.length_append,List.length_nil]
 omega
structure FitV (R:Type) (v:Json) (d:Int) (n:Nat):Prop where
 right:uB v d=true
 len:SG v=true
 size:(kH v).length+5000≤10000*n
theorem Vc:∀(l:List Json) (x:Json) (b:Bool),(uC (l ++ [x]) b).length≤(uC l b).length+1+(kH x).length
 | [],x,b=>by cases b <;> simp[uC] <;> omega
 | y::l,x,b=>by
  have:=Vc l x false
  simp only[List.cons_append,uC,List.length_append]
  omega
theorem Vd:∀(ns:List ah) (l:List Json) (n:ah) (x:Json) (b:Bool),ns.length=l.length→(tz (ns ++ [n]) (l ++ [x]) b).length≤(tz ns l b).length+2+(qtS n).length+(kH x).length
 | [], [],n,x,b,_=>by cases b <;> simp[tz] <;> omega
 | m::ns,y::l,n,x,b,h=>by
  have:=Vd ns l n x false (by simpa using h)
  simp only[List.cons_append,tz,List.headD_cons,List.tail_cons,List.length_append,List.length_cons]
  omega
 | [],_::_,_,_,_,h=>by cases h
 | _::_, [],_,_,_,h=>by cases h
theorem OF:∀(l:List Json) (x:Json) (d:Int),mc (l ++ [x]) d=(mc l d&&uB x d)
 | [],x,d=>by simp[mc]
 | y::l,x,d=>by simp only[List.cons_append,mc,OF l x d,Bool.and_assoc]
structure Held (q:Int) (d:Int) (ns:List ah) (is:List Json) (n:Nat):Prop where
 right:mc is (d+1)=true
 len:SH is=true
 count:is.length≤12
 names:(q=7∧ns.length=is.length∧EW [] ns=true∧(∀t∈ns,t.length≤1000)∧(tz ns is true).length≤10000*n)∨(q=6∧ns = []∧(uC is true).length≤10000*n)
end Go.Proofs.YtmlkkgfenfdndaaGreatDoor
/-
 Functions of the program as pure Lean functions, and the ties; printed by wip/tools/emit.py.
-/
set_option maxRecDepth 100000
namespace Go.Proofs.YtmlkkgfenfdndaaGreatDoor
open Go Go.aG
/-! ### humpyard/humpyardlaw04.awake -/
abbrev qB (R:Type):Type:=(Bool→Option R)→Option R
abbrev Hx:List bE := []
abbrev Hy:List aA := []
def L8 {R:Type} (fn:qB R):bE.au Hx→aA.au Hy→(V→aO→Option R)→Option R:=fun x y k=>fn (fun q0=>k (.bool q0) [])
def NP {R:Type} (fn:qB R):aG.Spec R→aG.Spec R:=bm Hx Hy (L8 fn)
def NQ {R:Type} (eh:mg R) (qA:vu R) (gL:om R) (qd:dQ R):List (wv R) := [(20,true,(JE eh bb)),(17,true,(P4 qA bb)),(32,true,(I7 gL bb)),(21,true,(RT qd bb))]
theorem SR {R:Type}:ff (R:=R) Tryz.prog (NQ eh qA gL qd) := .p (J8 R _ (aM _)) <| .p (SJ R _ (aM _)) <| .p (JX R _ (aM _)) <| .p (U2 R _ (aM _)) <| .n
def NR {R:Type} (eh:mg R) (qA:vu R) (gL:om R) (qd:dQ R) (k0:Bool→Option R):Option R :=
 eh ([32,123,34,97,34,32,58,32,91,49,46,53,48,44,32,110,117,108,108,93,125,32]:ah) (fun y1 y2 y3=>eh ([123,34,97,34,58,49,44,34,97,34]:ah) (fun y4 y5 y6=>bif (y2==0)then (bif (y3==0)then (qA (⟨y1.kind,⟨y1.num.aF,y1.num.exp⟩,y1.text,y1.names,y1.items⟩:Json) (fun y7=>bif (y7==([123,34,97,34,58,91,49,46,53,44,110,117,108,108,93,125]:ah))then (bif (y5==42)then (bif (y6==7)then (gL (⟨y1.kind,⟨y1.num.aF,y1.num.exp⟩,y1.text,y1.names,y1.items⟩:Json) (fun y8=>bif y8 then (qd (⟨y1.kind,⟨y1.num.aF,y1.num.exp⟩,y1.text,y1.names,y1.items⟩:Json) (⟨y1.kind,⟨y1.num.aF,y1.num.exp⟩,y1.text,y1.names,y1.items⟩:Json) (fun y9=>bif y9 then (qd (⟨y1.kind,⟨y1.num.aF,y1.num.exp⟩,y1.text,y1.names,y1.items⟩:Json) (⟨0,⟨0,0⟩,([]:ah),([]:List ah),([]:List Json)⟩:Json) (fun rI=>k0 (!rI)))else (k0 false)))else (k0 false)))else (k0 false))else (k0 false))else (k0 false)))else (k0 false))else (k0 false)))
def gJ {R:Type}:qB R:=fun  k0=>NR eh qA gL qd  k0
theorem Ve {R:Type} (eh:mg R) (qA:vu R) (gL:om R) (qd:dQ R):gS (R:=R) tt (NQ eh qA gL qd) Ca false Tryz.f30 (aI Tryz.f30) Hx Hy (L8 (NR eh qA gL qd)):=fun x y k=>by kernel_rfl
theorem Rk (R:Type):sM Tryz.prog 30 (NP (gJ (R:=R))):=cC TT mixed (SR (R:=R)) rfl rfl rfl rfl eS (Ve eh qA gL qd)
end Go.Proofs.YtmlkkgfenfdndaaGreatDoor
/-
 Functions of the program as pure Lean functions, and the ties; printed by wip/tools/emit.py.
-/
set_option maxRecDepth 100000
namespace Go.Proofs.YtmlkkgfenfdndaaGreatDoor
open Go Go.aG
end Go.Proofs.YtmlkkgfenfdndaaGreatDoor
set_option maxRecDepth 100000
namespace Go.Proofs.YtmlkkgfenfdndaaGreatDoor
open Go Go.aG Go.Lib
theorem awake04 {R:Type} (k:Bool→Option R):gJ k=k true:=by kernel_rfl
theorem pick04 {R:Type} (c n:Int) (hc:G3 c) (h0:0<n) (hn:n≤9223372036854775807):∃r:Int,0≤r∧r<n∧∀k:Int→Option R,fY c n k=k r:=pick_raw c n hc h0 hn
theorem prtA_len {d:dH} (h:Fm d):(Jx d).length≤60:=by
 have e:Jx d=WR d:=by unfold Jx; rw[Mq.2 h]; rfl
 rw[e]
 exact (W0 h).2.2
end Go.Proofs.YtmlkkgfenfdndaaGreatDoor
/-
 Functions of the program as pure Lean functions, and the ties; printed by wip/tools/emit.py.
-/
set_option maxRecDepth 100000
namespace Go.Proofs.YtmlkkgfenfdndaaGreatDoor
open Go Go.aG
/-! ### (*humpyard/humpyardref04.Parser).value -/
abbrev aD (R:Type):Type:=Int→(List Token)→Int→Int→(Json→(List Token)→Int→Int→Option R)→Option R
abbrev eV:List bE := [.leaf (.ptr 0 0), .leaf (.int .i64)]
abbrev eW:List aA := [.cells [.sl .token, .int .i64, .int .i64]]
def cR {R:Type} (fn:aD R):bE.au eV→aA.au eW→(V→aO→Option R)→Option R:=fun x y k=>fn x.2.1 y.1.1 y.1.2.1 y.1.2.2.1 (fun q0 q1 q2 q3=>k (.agg [.int .i64 q0.kind, .int .i64 q0.num.aF, .int .i64 q0.num.exp, .str q0.text, .sl .str q0.names .no, .sl .json q0.items .no]) [.cells [.sl .token q1 .no, .int .i64 q2, .int .i64 q3]])
def xM {R:Type} (fn:aD R):aG.Spec R→aG.Spec R:=bm eV eW (cR fn)
abbrev eT (R:Type):Type:=Nat→Int→Bool→(List Token)→Int→Int→Int→Int→Int→ah→Int→Int→Int→ah→Nat→(List Json)→((List Token)→Int→Int→Int→Int→Int→ah→Int→Int→Int→ah→Nat→(List Json)→Option R)→Option R
abbrev eU (R:Type):Type:=Nat→Int→Bool→(List Token)→Int→Int→Int→Int→Int→ah→Int→Int→Int→ah→(List ah)→Nat→(List Json)→((List Token)→Int→Int→Int→Int→Int→ah→Int→Int→Int→ah→(List ah)→Nat→(List Json)→Option R)→Option R
def eX {R:Type} (aq:cJ R) (aE:dG R) (ad:aD R) (fC:pj R):List (wv R) := [(85,false,(uL aq bb)),(86,false,(zj aE bb)),(59,false,(bm eV eW (cR ad) bb)),(83,true,(RP fC bb))]
theorem Fw {R:Type} (ad:aD R) (jk:aG.Spec.Ok Tryz.prog 59 (bm eV eW (cR ad) bb)):ff (R:=R) Tryz.prog (eX aq aE ad fC) := .f (xK R _ (aM _)) rfl <| .f (Fv R _ (aM _)) rfl <| .f jk rfl <| .p (UI R _ (aM _)) <| .n
def tS {R:Type} (aq:cJ R) (aE:dG R) (ad:aD R) (dq:Int→Bool→(List Token)→Int→Int→Int→Int→Int→ah→Int→Int→Int→ah→Nat→(List Json)→Option R) (x11:Int) (PI:Bool) (Kr:List Token) (NA:Int) (rW:Int) (wk:Int) (nG:Int) (wb:Int) (Gg:ah) (EM:Int) (x21:Int) (x22:Int) (x23:ah) (x24:Nat) (X8:List Json) (e0:(List Token)→Int→Int→Int→Int→Int→ah→Int→Int→Int→ah→Nat→(List Json)→Option R):Option R :=
 bif (!PI)then (bif (rW==0)then (ad (IntKind.i64.wrap (x11+1)) Kr NA rW (fun D5 I8 RN Si=>cu (decide ((X8.length+1)*88≤140737488355328)) (aq ([44]:ah) I8 RN Si (fun S9 Sj Vu WS=>bif (!S9)then (aE ([93]:ah) Sj Vu WS (fun VT Sk X6=>dq x11 true VT Sk X6 wk nG wb Gg EM x21 x22 x23 (X8.length+1) (X8++([(⟨D5.kind,⟨D5.num.aF,D5.num.exp⟩,D5.text,D5.names,D5.items⟩:Json)]:List Json))))else (dq x11 PI Sj Vu WS wk nG wb Gg EM x21 x22 x23 (X8.length+1) (X8++([(⟨D5.kind,⟨D5.num.aF,D5.num.exp⟩,D5.text,D5.names,D5.items⟩:Json)]:List Json)))))))else (e0 Kr NA rW wk nG wb Gg EM x21 x22 x23 x24 X8))else (e0 Kr NA rW wk nG wb Gg EM x21 x22 x23 x24 X8)
def az {R:Type} (ad:aD R):eT R
 | 0,_,_,_,_,_,_,_,_,_,_,_,_,_,_,_,_=>none
 | n+1,hY,hZ,iB,ql,E3,He,Sl,Sm,Sn,So,Hf,Rd,x12',x13',x14',e0=>tS aq aE ad (fun hY hZ iB ql E3 He Sl Sm Sn So Hf Rd x12' x13' x14'=>az ad n hY hZ iB ql E3 He Sl Sm Sn So Hf Rd x12' x13' x14' e0) hY hZ iB ql E3 He Sl Sm Sn So Hf Rd x12' x13' x14' e0
def kr:Hint := { live := [0,1,4,7,8],own := [],rows := [],cells := [(2,5, .json,true)],drop := [],out := [4,7] }
abbrev ei:Type:=Int × Bool × (List Token) × Int × Int × Int × Int × Int × ah × Int × Int × Int × ah × Nat × (List Json)
def jl:ei→St:=fun d=>⟨.ptr 0 0 :: .int .i64 d.1::U 2 (.ptr 1 0::U 2 (.ptr 2 0 :: .bool d.2.1::U 184 ([]))), [.cells [.sl .token d.2.2.1 .no, .int .i64 d.2.2.2.1, .int .i64 d.2.2.2.2.1], .cells [.int .i64 d.2.2.2.2.2.1, .int .i64 d.2.2.2.2.2.2.1, .int .i64 d.2.2.2.2.2.2.2.1, .str d.2.2.2.2.2.2.2.2.1, .cV, .cV], .cells [.int .i64 d.2.2.2.2.2.2.2.2.2.1, .int .i64 d.2.2.2.2.2.2.2.2.2.2.1, .int .i64 d.2.2.2.2.2.2.2.2.2.2.2.1, .str d.2.2.2.2.2.2.2.2.2.2.2.2.1, .cV, .row 3 d.2.2.2.2.2.2.2.2.2.2.2.2.2.1], .row .json d.2.2.2.2.2.2.2.2.2.2.2.2.2.2]⟩
def nB {R:Type} (K:Ex→St→Option R) (q0:List Token) (q1:Int) (q2:Int) (q3:Int) (q4:Int) (q5:Int) (q6:ah) (q7:Int) (q8:Int) (q9:Int) (q10:ah) (q11:Nat) (q12:List Json):Option R:=K (.exit 1) ⟨U 4 (.ptr 1 0::U 2 (.ptr 2 0::U 185 ([]))), [.cells [.sl .token q0 .no, .int .i64 q1, .int .i64 q2], .cells [.int .i64 q3, .int .i64 q4, .int .i64 q5, .str q6, .cV, .cV], .cells [.int .i64 q7, .int .i64 q8, .int .i64 q9, .str q10, .cV, .row 3 q11], .row .json q12]⟩
def n9 {R:Type} (aq:cJ R) (aE:dG R) (ad:aD R) (K:Ex→St→Option R) (rc:ei→Option R) (d:ei):Option R:=tS aq aE ad (fun z0 z1 z2 z3 z4 z5 z6 z7 z8 z9 uO sn z12 VP z14=>rc (z0,z1,z2,z3,z4,z5,z6,z7,z8,z9,uO,sn,z12,VP,z14)) d.1 d.2.1 d.2.2.1 d.2.2.2.1 d.2.2.2.2.1 d.2.2.2.2.2.1 d.2.2.2.2.2.2.1 d.2.2.2.2.2.2.2.1 d.2.2.2.2.2.2.2.2.1 d.2.2.2.2.2.2.2.2.2.1 d.2.2.2.2.2.2.2.2.2.2.1 d.2.2.2.2.2.2.2.2.2.2.2.1 d.2.2.2.2.2.2.2.2.2.2.2.2.1 d.2.2.2.2.2.2.2.2.2.2.2.2.2.1 d.2.2.2.2.2.2.2.2.2.2.2.2.2.2 (nB K)
def fW {R:Type} (ad:aD R) (K:Ex→St→Option R) (n:Nat) (d:ei):Option R:=az ad n d.1 d.2.1 d.2.2.1 d.2.2.2.1 d.2.2.2.2.1 d.2.2.2.2.2.1 d.2.2.2.2.2.2.1 d.2.2.2.2.2.2.2.1 d.2.2.2.2.2.2.2.2.1 d.2.2.2.2.2.2.2.2.2.1 d.2.2.2.2.2.2.2.2.2.2.1 d.2.2.2.2.2.2.2.2.2.2.2.1 d.2.2.2.2.2.2.2.2.2.2.2.2.1 d.2.2.2.2.2.2.2.2.2.2.2.2.2.1 d.2.2.2.2.2.2.2.2.2.2.2.2.2.2 (nB K)
abbrev er:List bE := .leaf (.ptr 0 0) :: .leaf (.int .i64)::PU 2 (.leaf (.ptr 1 0)::PU 2 (.leaf (.ptr 2 0) :: .leaf (.bool)::PU 184 ([])))
abbrev ez:List aA := [.cells [.sl .token, .int .i64, .int .i64], .cells [.int .i64, .int .i64, .int .i64, .str, .cV, .cV], .cells [.int .i64, .int .i64, .int .i64, .str, .cV, .row 3], .row .json]
def oa (x:bE.au er) (y:aA.au ez):Nat:=(Int.natAbs x.2.1+List.length y.1.1+Int.natAbs y.1.2.1+Int.natAbs y.1.2.2.1+Int.natAbs y.2.1.1+Int.natAbs y.2.1.2.1+Int.natAbs y.2.1.2.2.1+List.length y.2.1.2.2.2.1+Int.natAbs y.2.2.1.1+Int.natAbs y.2.2.1.2.1+Int.natAbs y.2.2.1.2.2.1+List.length y.2.2.1.2.2.2.1+List.length y.2.2.2.1+64)
def oc (x:bE.au er) (y:aA.au ez):ei:=(x.2.1,x.2.2.2.2.2.2.2.2.1,y.1.1,y.1.2.1,y.1.2.2.1,y.2.1.1,y.2.1.2.1,y.2.1.2.2.1,y.2.1.2.2.2.1,y.2.2.1.1,y.2.2.1.2.1,y.2.2.1.2.2.1,y.2.2.1.2.2.2.1,y.2.2.1.2.2.2.2.2.1,y.2.2.2.1)
def nC {R:Type} (L:eT R):bE.au er→aA.au ez→(Ex→St→Option R)→Option R:=fun x y K=>L (oa x y) x.2.1 x.2.2.2.2.2.2.2.2.1 y.1.1 y.1.2.1 y.1.2.2.1 y.2.1.1 y.2.1.2.1 y.2.1.2.2.1 y.2.1.2.2.2.1 y.2.2.1.1 y.2.2.1.2.1 y.2.2.1.2.2.1 y.2.2.1.2.2.2.1 y.2.2.1.2.2.2.2.2.1 y.2.2.2.1 (nB K)
def ku {R:Type} (aq:cJ R) (aE:dG R) (ad:aD R) (fC:pj R) (dq:Int→Bool→(List Token)→Int→Int→Int→Int→Int→ah→Int→Int→Int→ah→(List ah)→Nat→(List Json)→Option R) (x55:Int) (x56:Bool) (x57:List Token) (x58:Int) (x59:Int) (x60:Int) (x61:Int) (x62:Int) (x63:ah) (x64:Int) (x65:Int) (x66:Int) (x67:ah) (x68:List ah) (x69:Nat) (x70:List Json) (e0:(List Token)→Int→Int→Int→Int→Int→ah→Int→Int→Int→ah→(List ah)→Nat→(List Json)→Option R):Option R :=
 bif (!x56)then (bif (x59==0)then (cu (decide ((0:Int)≤x58)&&decide (x58<x57.length)) (bif ((x57.getD x58.toNat (Ty.bU .token)).kind != 2)then (e0 x57 x58 40 x60 x61 x62 x63 x64 x65 x66 x67 x68 x69 x70)else (fC x68 ((x57.getD x58.toNat (Ty.bU .token)).text) (fun y72=>bif y72 then (e0 x57 x58 42 x60 x61 x62 x63 x64 x65 x66 x67 x68 x69 x70)else (aE ([58]:ah) x57 (IntKind.i64.wrap (x58+1)) x59 (fun y73 y74 y75=>cu (decide ((x68.length+1)*16≤140737488355328)) (ad (IntKind.i64.wrap (x55+1)) y73 y74 y75 (fun YM y77 y78 y79=>cu (decide ((x70.length+1)*88≤140737488355328)) (aq ([44]:ah) y77 y78 y79 (fun y80 y81 y82 y83=>bif (!y80)then (aE ([125]:ah) y81 y82 y83 (fun y84 y85 y86=>dq x55 true y84 y85 y86 x60 x61 x62 x63 x64 x65 x66 x67 (x68++([(x57.getD x58.toNat (Ty.bU .token)).text]:List ah)) (x70.length+1) (x70++([(⟨YM.kind,⟨YM.num.aF,YM.num.exp⟩,YM.text,YM.names,YM.items⟩:Json)]:List Json))))else (dq x55 x56 y81 y82 y83 x60 x61 x62 x63 x64 x65 x66 x67 (x68++([(x57.getD x58.toNat (Ty.bU .token)).text]:List ah)) (x70.length+1) (x70++([(⟨YM.kind,⟨YM.num.aF,YM.num.exp⟩,YM.text,YM.names,YM.items⟩:Json)]:List Json)))))))))))))else (e0 x57 x58 x59 x60 x61 x62 x63 x64 x65 x66 x67 x68 x69 x70))else (e0 x57 x58 x59 x60 x61 x62 x63 x64 x65 x66 x67 x68 x69 x70)
def ax {R:Type} (ad:aD R):eU R
 | 0,_,_,_,_,_,_,_,_,_,_,_,_,_,_,_,_,_=>none
 | n+1,hY,hZ,iB,ql,E3,He,Sl,Sm,Sn,So,Hf,Rd,x12',x13',x14',x15',e0=>ku aq aE ad fC (fun hY hZ iB ql E3 He Sl Sm Sn So Hf Rd x12' x13' x14' x15'=>ax ad n hY hZ iB ql E3 He Sl Sm Sn So Hf Rd x12' x13' x14' x15' e0) hY hZ iB ql E3 He Sl Sm Sn So Hf Rd x12' x13' x14' x15' e0
def kv:Hint := { live := [0,1,4,10,11],own := [],rows := [],cells := [(2,4, .str,false),(2,5, .json,true)],drop := [],out := [4,10] }
abbrev eA:Type:=Int × Bool × (List Token) × Int × Int × Int × Int × Int × ah × Int × Int × Int × ah × (List ah) × Nat × (List Json)
def jm:eA→St:=fun d=>⟨.ptr 0 0 :: .int .i64 d.1::U 2 (.ptr 1 0::U 5 (.ptr 2 0 :: .bool d.2.1::U 181 ([]))), [.cells [.sl .token d.2.2.1 .no, .int .i64 d.2.2.2.1, .int .i64 d.2.2.2.2.1], .cells [.int .i64 d.2.2.2.2.2.1, .int .i64 d.2.2.2.2.2.2.1, .int .i64 d.2.2.2.2.2.2.2.1, .str d.2.2.2.2.2.2.2.2.1, .cV, .cV], .cells [.int .i64 d.2.2.2.2.2.2.2.2.2.1, .int .i64 d.2.2.2.2.2.2.2.2.2.2.1, .int .i64 d.2.2.2.2.2.2.2.2.2.2.2.1, .str d.2.2.2.2.2.2.2.2.2.2.2.2.1, .sl .str d.2.2.2.2.2.2.2.2.2.2.2.2.2.1 (.own 3), .row 4 d.2.2.2.2.2.2.2.2.2.2.2.2.2.2.1], .tok, .row .json d.2.2.2.2.2.2.2.2.2.2.2.2.2.2.2]⟩
def nD {R:Type} (K:Ex→St→Option R) (q0:List Token) (q1:Int) (q2:Int) (q3:Int) (q4:Int) (q5:Int) (q6:ah) (q7:Int) (q8:Int) (q9:Int) (q10:ah) (q11:List ah) (q12:Nat) (q13:List Json):Option R:=K (.exit 3) ⟨U 4 (.ptr 1 0::U 5 (.ptr 2 0::U 182 ([]))), [.cells [.sl .token q0 .no, .int .i64 q1, .int .i64 q2], .cells [.int .i64 q3, .int .i64 q4, .int .i64 q5, .str q6, .cV, .cV], .cells [.int .i64 q7, .int .i64 q8, .int .i64 q9, .str q10, .sl .str q11 (.own 3), .row 4 q12], .tok, .row .json q13]⟩
def od {R:Type} (aq:cJ R) (aE:dG R) (ad:aD R) (fC:pj R) (K:Ex→St→Option R) (rc:eA→Option R) (d:eA):Option R:=ku aq aE ad fC (fun z0 z1 z2 z3 z4 z5 z6 z7 z8 z9 uO sn z12 VP z14 VU=>rc (z0,z1,z2,z3,z4,z5,z6,z7,z8,z9,uO,sn,z12,VP,z14,VU)) d.1 d.2.1 d.2.2.1 d.2.2.2.1 d.2.2.2.2.1 d.2.2.2.2.2.1 d.2.2.2.2.2.2.1 d.2.2.2.2.2.2.2.1 d.2.2.2.2.2.2.2.2.1 d.2.2.2.2.2.2.2.2.2.1 d.2.2.2.2.2.2.2.2.2.2.1 d.2.2.2.2.2.2.2.2.2.2.2.1 d.2.2.2.2.2.2.2.2.2.2.2.2.1 d.2.2.2.2.2.2.2.2.2.2.2.2.2.1 d.2.2.2.2.2.2.2.2.2.2.2.2.2.2.1 d.2.2.2.2.2.2.2.2.2.2.2.2.2.2.2 (nD K)
def fX {R:Type} (ad:aD R) (K:Ex→St→Option R) (n:Nat) (d:eA):Option R:=ax ad n d.1 d.2.1 d.2.2.1 d.2.2.2.1 d.2.2.2.2.1 d.2.2.2.2.2.1 d.2.2.2.2.2.2.1 d.2.2.2.2.2.2.2.1 d.2.2.2.2.2.2.2.2.1 d.2.2.2.2.2.2.2.2.2.1 d.2.2.2.2.2.2.2.2.2.2.1 d.2.2.2.2.2.2.2.2.2.2.2.1 d.2.2.2.2.2.2.2.2.2.2.2.2.1 d.2.2.2.2.2.2.2.2.2.2.2.2.2.1 d.2.2.2.2.2.2.2.2.2.2.2.2.2.2.1 d.2.2.2.2.2.2.2.2.2.2.2.2.2.2.2 (nD K)
abbrev eB:List bE := .leaf (.ptr 0 0) :: .leaf (.int .i64)::PU 2 (.leaf (.ptr 1 0)::PU 5 (.leaf (.ptr 2 0) :: .leaf (.bool)::PU 181 ([])))
abbrev eC:List aA := [.cells [.sl .token, .int .i64, .int .i64], .cells [.int .i64, .int .i64, .int .i64, .str, .cV, .cV], .cells [.int .i64, .int .i64, .int .i64, .str, .Vt .str 3, .row 4], .tok, .row .json]
def oe (x:bE.au eB) (y:aA.au eC):Nat:=(Int.natAbs x.2.1+List.length y.1.1+Int.natAbs y.1.2.1+Int.natAbs y.1.2.2.1+Int.natAbs y.2.1.1+Int.natAbs y.2.1.2.1+Int.natAbs y.2.1.2.2.1+List.length y.2.1.2.2.2.1+Int.natAbs y.2.2.1.1+Int.natAbs y.2.2.1.2.1+Int.natAbs y.2.2.1.2.2.1+List.length y.2.2.1.2.2.2.1+List.length y.2.2.1.2.2.2.2.1+List.length y.2.2.2.2.1+64)
def og (x:bE.au eB) (y:aA.au eC):eA:=(x.2.1,x.2.2.2.2.2.2.2.2.2.2.2.1,y.1.1,y.1.2.1,y.1.2.2.1,y.2.1.1,y.2.1.2.1,y.2.1.2.2.1,y.2.1.2.2.2.1,y.2.2.1.1,y.2.2.1.2.1,y.2.2.1.2.2.1,y.2.2.1.2.2.2.1,y.2.2.1.2.2.2.2.1,y.2.2.1.2.2.2.2.2.1,y.2.2.2.2.1)
def nE {R:Type} (L:eU R):bE.au eB→aA.au eC→(Ex→St→Option R)→Option R:=fun x y K=>L (oe x y) x.2.1 x.2.2.2.2.2.2.2.2.2.2.2.1 y.1.1 y.1.2.1 y.1.2.2.1 y.2.1.1 y.2.1.2.1 y.2.1.2.2.1 y.2.1.2.2.2.1 y.2.2.1.1 y.2.2.1.2.1 y.2.2.1.2.2.1 y.2.2.1.2.2.2.1 y.2.2.1.2.2.2.2.1 y.2.2.1.2.2.2.2.2.1 y.2.2.2.2.1 (nD K)
def fL (R:Type) (az:eT R) (ax:eU R):Nat→Option (Hint × dC R):=fun i=>match i with
 | 22=>some (kr,(dx er ez (nC az) j7))
 | 31=>some (kv,(dx eB eC (nE ax) j7))
 | _=>none
theorem A0 {R:Type} (aq:cJ R) (aE:dG R) (ad:aD R) (fC:pj R) (az:eT R) (ax:eU R) (K:Ex→St→Option R) (rc:St→Option R) (d:ei):roundOf (tt.mode [.json]) (dM (eX aq aE ad fC)) (fL R az ax) 1 ((aT (aI Tryz.f59)).getD 0 .skip) kr (jl d) rc K=n9 aq aE ad K (fun d=>rc (jl d)) d:=by kernel_rfl
theorem zl {R:Type} (ad:aD R) (K:Ex→St→Option R) (n:Nat) (d:ei):fW ad K (n+1) d=n9 aq aE ad K (fW ad K n) d:=by kernel_rfl
theorem zm {R:Type} (ad:aD R) (K:Ex→St→Option R) (d:ei):fW ad K 0 d=none:=by kernel_rfl
theorem A1 (x:bE.au er) (y:aA.au ez):(⟨bE.eD er x,aA.eD ez y⟩:St)=jl (oc x y):=by kernel_rfl
theorem A2 {R:Type} (ad:aD R) (x:bE.au er) (y:aA.au ez) (K:Ex→St→Option R):nC (az ad) x y K=fW ad K (oa x y) (oc x y):=by kernel_rfl
theorem Cj {R:Type} (ad:aD R) (other:dC R) (ho:jt (tt.mode [.json]) (dM (eX aq aE ad fC)) (fL R (az ad) (ax ad)) 1 ((aT (aI Tryz.f59)).getD 0 .skip) kr other):jt (tt.mode [.json]) (dM (eX aq aE ad fC)) (fL R (az ad) (ax ad)) 1 ((aT (aI Tryz.f59)).getD 0 .skip) kr (dx er ez (nC (az ad)) other) :=
 dL (A:=fW ad) ho (fw jl (n9 aq aE ad) (fW ad) (zm ad) (A0 aq aE ad fC (az ad) (ax ad)) (zl ad)) oa oc A1 (A2 ad)
theorem A3 {R:Type} (aq:cJ R) (aE:dG R) (ad:aD R) (fC:pj R) (az:eT R) (ax:eU R) (K:Ex→St→Option R) (rc:St→Option R) (d:eA):roundOf (tt.mode [.json]) (dM (eX aq aE ad fC)) (fL R az ax) 1 ((aT (aI Tryz.f59)).getD 1 .skip) kv (jm d) rc K=od aq aE ad fC K (fun d=>rc (jm d)) d:=by kernel_rfl
theorem zn {R:Type} (ad:aD R) (K:Ex→St→Option R) (n:Nat) (d:eA):fX ad K (n+1) d=od aq aE ad fC K (fX ad K n) d:=by kernel_rfl
theorem zo {R:Type} (ad:aD R) (K:Ex→St→Option R) (d:eA):fX ad K 0 d=none:=by kernel_rfl
theorem A4 (x:bE.au eB) (y:aA.au eC):(⟨bE.eD eB x,aA.eD eC y⟩:St)=jm (og x y):=by kernel_rfl
theorem A5 {R:Type} (ad:aD R) (x:bE.au eB) (y:aA.au eC) (K:Ex→St→Option R):nE (ax ad) x y K=fX ad K (oe x y) (og x y):=by kernel_rfl
theorem Ck {R:Type} (ad:aD R) (other:dC R) (ho:jt (tt.mode [.json]) (dM (eX aq aE ad fC)) (fL R (az ad) (ax ad)) 1 ((aT (aI Tryz.f59)).getD 1 .skip) kv other):jt (tt.mode [.json]) (dM (eX aq aE ad fC)) (fL R (az ad) (ax ad)) 1 ((aT (aI Tryz.f59)).getD 1 .skip) kv (dx eB eC (nE (ax ad)) other) :=
 dL (A:=fX ad) ho (fw jm (od aq aE ad fC) (fX ad) (zo ad) (A3 aq aE ad fC (az ad) (ax ad)) (zn ad)) oe og A4 (A5 ad)
def kA {R:Type} (aq:cJ R) (az:eT R) (ax:eU R) (x1:Int) (x2:List Token) (x3:Int) (x4:Int) (k0:Json→(List Token)→Int→Int→Option R):Option R :=
 bif (x4 != 0)then (k0 (⟨0,⟨0,0⟩,([]:ah),([]:List ah),([]:List Json)⟩:Json) x2 x3 x4)else (cu (decide ((0:Int)≤x3)&&decide (x3<x2.length)) (let j102:=fun (z5:Bool)=>let j101:=bif (decide (x1>(16:Int)))then (k0 (⟨0,⟨0,0⟩,([]:ah),([]:List ah),([]:List Json)⟩:Json) x2 x3 41)else (bif ((x2.getD x3.toNat (Ty.bU .token)).kind==2)then (k0 (⟨5,⟨0,0⟩,(x2.getD x3.toNat (Ty.bU .token)).text,([]:List ah),([]:List Json)⟩:Json) x2 (IntKind.i64.wrap (x3+1)) x4)else (bif ((x2.getD x3.toNat (Ty.bU .token)).kind==3)then (k0 (⟨4,⟨(x2.getD x3.toNat (Ty.bU .token)).num.aF,(x2.getD x3.toNat (Ty.bU .token)).num.exp⟩,([]:ah),([]:List ah),([]:List Json)⟩:Json) x2 (IntKind.i64.wrap (x3+1)) x4)else (bif ((x2.getD x3.toNat (Ty.bU .token)).kind==4)then (k0 (⟨((sf .str (.int .i64) ((x2.getD x3.toNat (Ty.bU .token)).text) ([(([110,117,108,108]:ah),1),(([102,97,108,115,101]:ah),2),(([116,114,117,101]:ah),3)]:List (ah × Int))):Int),⟨0,0⟩,([]:ah),([]:List ah),([]:List Json)⟩:Json) x2 (IntKind.i64.wrap (x3+1)) x4)else (bif ((x2.getD x3.toNat (Ty.bU .token)).text==([91]:ah))then (aq ([93]:ah) x2 (IntKind.i64.wrap (x3+1)) x4 (fun y7 y8 y9 rI=>az (Int.natAbs x1+List.length y8+Int.natAbs y9+Int.natAbs rI+Int.natAbs 0+Int.natAbs 0+Int.natAbs 0+List.length ([]:ah)+Int.natAbs 6+Int.natAbs 0+Int.natAbs 0+List.length ([]:ah)+List.length ([]:List Json)+64) x1 y7 y8 y9 rI 0 0 0 ([]:ah) 6 0 0 ([]:ah) 0 ([]:List Json) (fun X7 YK YL y41 y42 y43 y44 y45 y46 y47 y48 y49 y50=>k0 (⟨y45,⟨y46,y47⟩,y48,([]:List ah),y50⟩:Json) X7 YK YL)))else (aq ([125]:ah) x2 (IntKind.i64.wrap (x3+1)) x4 (fun ZZ VV WT WU=>ax (Int.natAbs x1+List.length VV+Int.natAbs WT+Int.natAbs WU+Int.natAbs 0+Int.natAbs 0+Int.natAbs 0+List.length ([]:ah)+Int.natAbs 7+Int.natAbs 0+Int.natAbs 0+List.length ([]:ah)+List.length ([]:List ah)+List.length ([]:List Json)+64) x1 ZZ VV WT WU 0 0 0 ([]:ah) 7 0 0 ([]:ah) ([]:List ah) 0 ([]:List Json) (fun y87 y88 y89 y90 y91 y92 y93 y94 y95 y96 y97 y98 y99 y100=>k0 (⟨y94,⟨y95,y96⟩,y97,y98,y100⟩:Json) y87 y88 y89))))))); bif ((x2.getD x3.toNat (Ty.bU .token)).kind==5)then (k0 (⟨0,⟨0,0⟩,([]:ah),([]:List ah),([]:List Json)⟩:Json) x2 x3 40)else (bif ((x2.getD x3.toNat (Ty.bU .token)).kind==1)then (bif (!z5)then (k0 (⟨0,⟨0,0⟩,([]:ah),([]:List ah),([]:List Json)⟩:Json) x2 x3 40)else (j101))else (j101)); bif ((x2.getD x3.toNat (Ty.bU .token)).kind==1)then (bif ((x2.getD x3.toNat (Ty.bU .token)).text==([91]:ah))then (j102 true)else (j102 ((x2.getD x3.toNat (Ty.bU .token)).text==([123]:ah))))else (j102 false)))
def qZ {R:Type} (ad:aD R):aD R:=fun x1 x2 x3 x4 k0=>kA aq (az ad) (ax ad) x1 x2 x3 x4 k0
theorem Gc {R:Type} (aq:cJ R) (aE:dG R) (ad:aD R) (fC:pj R) (az:eT R) (ax:eU R):gS (R:=R) (tt.mode [.json]) (eX aq aE ad fC) (fL R az ax) false Tryz.f59 (aI Tryz.f59) eV eW (cR (kA aq az ax)):=fun x y k=>by kernel_rfl
theorem D2 (R:Type) (ad:aD R) (jk:aG.Spec.Ok Tryz.prog 59 (bm eV eW (cR ad) bb)):∀a∈aT (aI Tryz.f59),jn (tt.mode [.json]) (dM (eX aq aE ad fC)) (fL R (az ad) (ax ad)) 1 a:=by
 refine gR 2 (by kernel_rfl) fun i hi => ?_
 match i,hi with
 | 0,_=>exact cW (by kernel_rfl) (Cj ad _ eN)
 | 1,_=>exact cW (by kernel_rfl) (Ck ad _ eN)
 | n+2,hi=>omega
theorem D3 (R:Type) (ad:aD R) (jk:aG.Spec.Ok Tryz.prog 59 (bm eV eW (cR ad) bb)):sM Tryz.prog 59 (xM (qZ ad)):=cC (TT.mode [.json]) mixed (Fw ad jk) rfl rfl rfl rfl (D2 R ad jk) (Gc aq aE ad fC (az ad) (ax ad))
def br {R:Type}:Nat→aD R
 | 0,_,_,_,_,_=>none
 | n+1,hY,hZ,iB,ql,k0'=>qZ (br n) hY hZ iB ql k0'
theorem Rl {R:Type} (n:Nat):br (R:=R) (n+1)=qZ (br n):=by kernel_rfl
theorem EC (R:Type):∀n,aG.Spec.Ok Tryz.prog 59 (bm eV eW (cR (br (R:=R) n)) bb) :=
 wu (run:=fun n=>cR (br (R:=R) n)) (fun x y k=>by kernel_rfl) fun n hyp=>D3 R (br n) hyp bb (aM _)
def cP {R:Type}:aD R:=fun x1 x2 x3 x4 k0=>br 40 x1 x2 x3 x4 k0
theorem ED (R:Type):cR (R:=R) cP=fun x y k=>cR (br 40) x y k:=by kernel_rfl
theorem EE (R:Type) (other:aG.Spec R) (ho:aG.Spec.Ok Tryz.prog 59 other):aG.Spec.Ok Tryz.prog 59 (bm eV eW (cR cP) other) :=
 CA (FC (run:=fun n=>cR (br (R:=R) n)) (fun x y=>40) ho (EC R)) (ED R)
end Go.Proofs.YtmlkkgfenfdndaaGreatDoor
/-
 Functions of the program as pure Lean functions, and the ties; printed by wip/tools/emit.py.
-/
set_option maxRecDepth 100000
namespace Go.Proofs.YtmlkkgfenfdndaaGreatDoor
open Go Go.aG
/-! ### humpyard/humpyardref04.Parse -/
abbrev qC (R:Type):Type:=ah→(Json→Int→Int→Option R)→Option R
abbrev Hz:List bE := [.leaf (.str)]
abbrev HA:List aA := []
def L9 {R:Type} (fn:qC R):bE.au Hz→aA.au HA→(V→aO→Option R)→Option R:=fun x y k=>fn x.1 (fun q0 q1 q2=>k (.tuple [.agg [.int .i64 q0.kind, .int .i64 q0.num.aF, .int .i64 q0.num.exp, .str q0.text, .sl .str q0.names .no, .sl .json q0.items .no], .int .i64 q1, .int .i64 q2]) [])
def NS {R:Type} (fn:qC R):aG.Spec R→aG.Spec R:=bm Hz HA (L9 fn)
def NT {R:Type} (cP:aD R) (mR:vv R):List (wv R) := [(59,false,(xM cP bb)),(58,true,(P8 mR bb))]
theorem SS {R:Type}:ff (R:=R) Tryz.prog (NT cP mR) := .f (EE R _ (aM _)) rfl <| .p (SN R _ (aM _)) <| .n
def DA {R:Type} (cP:aD R) (mR:vv R) (x1:ah) (k0:Json→Int→Int→Option R):Option R :=
 mR x1 (fun y2 y3 y4=>bif (y3 != 0)then (k0 (⟨0,⟨0,0⟩,([]:ah),([]:List ah),([]:List Json)⟩:Json) y3 y4)else (cP 1 y2 0 0 (fun y5 y6 y7 y8=>let j10:=bif (y8 != 0)then (cu (decide ((0:Int)≤y7)&&decide (y7<y6.length)) (k0 (⟨0,⟨0,0⟩,([]:ah),([]:List ah),([]:List Json)⟩:Json) y8 ((y6.getD y7.toNat (Ty.bU .token)).at_)))else (k0 (⟨y5.kind,⟨y5.num.aF,y5.num.exp⟩,y5.text,y5.names,y5.items⟩:Json) 0 0); bif (y8==0)then (cu (decide ((0:Int)≤y7)&&decide (y7<y6.length)) (bif ((y6.getD y7.toNat (Ty.bU .token)).kind != 5)then (cu (decide ((0:Int)≤y7)&&decide (y7<y6.length)) (k0 (⟨0,⟨0,0⟩,([]:ah),([]:List ah),([]:List Json)⟩:Json) 40 ((y6.getD y7.toNat (Ty.bU .token)).at_)))else (j10)))else (j10))))
def gg {R:Type}:qC R:=fun x1 k0=>DA cP mR x1 k0
theorem Vf {R:Type} (cP:aD R) (mR:vv R):gS (R:=R) tt (NT cP mR) Ca false Tryz.f36 (aI Tryz.f36) Hz HA (L9 (DA cP mR)):=fun x y k=>by kernel_rfl
theorem Rm (R:Type):sM Tryz.prog 36 (NS (gg (R:=R))):=cC TT mixed (SS (R:=R)) rfl rfl rfl rfl eS (Vf cP mR)
/-! ### humpyard/humpyardlaw04.JsonWords -/
abbrev Az (R:Type):Type:=(List Int)→(Bool→Option R)→Option R
abbrev vX:List bE := [.leaf (.sl (.int .i64))]
abbrev vY:List aA := []
def AA {R:Type} (fn:Az R):bE.au vX→aA.au vY→(V→aO→Option R)→Option R:=fun x y k=>fn x.1 (fun q0=>k (.bool q0) [])
def Qh {R:Type} (fn:Az R):aG.Spec R→aG.Spec R:=bm vX vY (AA fn)
abbrev kz (R:Type):Type:=Nat→(List Int)→Bool→(List ah)→ah→Int→(Bool→ah→Option R)→Option R
def oU {R:Type} (gJ:qB R) (fY:pF R) (gg:qC R) (gM:cU R) (eh:mg R):List (wv R) := [(30,true,(NP gJ bb)),(35,true,(Pf fY bb)),(36,true,(NS gg bb)),(34,true,(PM gM bb)),(20,true,(JE eh bb))]
theorem M9 {R:Type}:ff (R:=R) Tryz.prog (oU gJ fY gg gM eh) := .p (Rk R _ (aM _)) <| .p (R5 R _ (aM _)) <| .p (Rm R _ (aM _)) <| .p (Sx R _ (aM _)) <| .p (J8 R _ (aM _)) <| .n
def kP {R:Type} (fY:pF R) (dq:(List Int)→Bool→(List ah)→ah→Int→Option R) (x3:List Int) (x4:Bool) (x5:List ah) (x6:ah) (x7:Int) (e0:Bool→ah→Option R):Option R :=
 bif (decide (x7<(x3.length:Int)))then (bif (decide (x7<(60:Int)))then (cu (decide ((0:Int)≤x7)&&decide (x7<x3.length)) (fY (x3.getD x7.toNat (Ty.bU (.int .i64))) (x5.length:Int) (fun y9=>cu (decide ((0:Int)≤y9)&&decide (y9<x5.length)) (cu (decide (x6.length+(x5.getD y9.toNat (Ty.bU .str)).length≤9223372036854775807)) (cu (decide ((x6++(x5.getD y9.toNat (Ty.bU .str))).length+1≤9223372036854775807)) (dq x3 x4 x5 ((x6++(x5.getD y9.toNat (Ty.bU .str)))++([32]:ah)) (IntKind.i64.wrap (x7+1))))))))else (e0 x4 x6))else (e0 x4 x6)
def bK {R:Type}:kz R
 | 0,_,_,_,_,_,_=>none
 | n+1,hY,hZ,iB,ql,E3,e0=>kP fY (fun hY hZ iB ql E3=>bK n hY hZ iB ql E3 e0) hY hZ iB ql E3 e0
def qI:Hint := { live := [0,3,4,5,6],own := [],rows := [],cells := [],drop := [],out := [2,3,5] }
abbrev gY:Type:=(List Int) × Bool × (List ah) × ah × Int
def oV:gY→St:=fun d=>⟨.sl (.int .i64) d.1 .no::U 2 (.bool d.2.1 :: .sl .str d.2.2.1 (.own 0) :: .str d.2.2.2.1 :: .int .i64 d.2.2.2.2::U 59 ([])), [.tok]⟩
def uM {R:Type} (K:Ex→St→Option R) (q0:Bool) (q1:ah):Option R:=K (.exit 0) ⟨U 3 (.bool q0 :: .undef :: .str q1::U 60 ([])), []⟩
def vz {R:Type} (fY:pF R) (K:Ex→St→Option R) (rc:gY→Option R) (d:gY):Option R:=kP fY (fun z0 z1 z2 z3 z4=>rc (z0,z1,z2,z3,z4)) d.1 d.2.1 d.2.2.1 d.2.2.2.1 d.2.2.2.2 (uM K)
def kQ {R:Type} (K:Ex→St→Option R) (n:Nat) (d:gY):Option R:=bK n d.1 d.2.1 d.2.2.1 d.2.2.2.1 d.2.2.2.2 (uM K)
abbrev gZ:List bE := .leaf (.sl (.int .i64))::PU 2 (.leaf (.bool) :: .leaf (.Vt .str 0) :: .leaf (.str) :: .leaf (.int .i64)::PU 59 ([]))
abbrev hG:List aA := [.tok]
def vA (x:bE.au gZ) (y:aA.au hG):Nat:=(List.length x.1+List.length x.2.2.2.2.1+List.length x.2.2.2.2.2.1+Int.natAbs x.2.2.2.2.2.2.1+64)
def vB (x:bE.au gZ) (y:aA.au hG):gY:=(x.1,x.2.2.2.1,x.2.2.2.2.1,x.2.2.2.2.2.1,x.2.2.2.2.2.2.1)
def uN {R:Type} (L:kz R):bE.au gZ→aA.au hG→(Ex→St→Option R)→Option R:=fun x y K=>L (vA x y) x.1 x.2.2.2.1 x.2.2.2.2.1 x.2.2.2.2.2.1 x.2.2.2.2.2.2.1 (uM K)
def se (R:Type) (bK:kz R):Nat→Option (Hint × dC R):=fun i=>match i with
 | 5=>some (qI,(dx gZ hG (uN bK) j7))
 | _=>none
theorem HB {R:Type} (gJ:qB R) (fY:pF R) (gg:qC R) (gM:cU R) (eh:mg R) (bK:kz R) (K:Ex→St→Option R) (rc:St→Option R) (d:gY):roundOf tt (dM (oU gJ fY gg gM eh)) (se R bK) 0 ((aT (aI Tryz.f9)).getD 0 .skip) qI (oV d) rc K=vz fY K (fun d=>rc (oV d)) d:=by kernel_rfl
theorem Gd {R:Type} (K:Ex→St→Option R) (n:Nat) (d:gY):kQ K (n+1) d=vz fY K (kQ K n) d:=by kernel_rfl
theorem Ge {R:Type} (K:Ex→St→Option R) (d:gY):kQ K 0 d=none:=by kernel_rfl
theorem HC (x:bE.au gZ) (y:aA.au hG):(⟨bE.eD gZ x,aA.eD hG y⟩:St)=oV (vB x y):=by kernel_rfl
theorem HD {R:Type} (x:bE.au gZ) (y:aA.au hG) (K:Ex→St→Option R):uN (bK) x y K=kQ K (vA x y) (vB x y):=by kernel_rfl
theorem JN {R:Type} (other:dC R) (ho:jt tt (dM (oU gJ fY gg gM eh)) (se R bK) 0 ((aT (aI Tryz.f9)).getD 0 .skip) qI other):jt tt (dM (oU gJ fY gg gM eh)) (se R bK) 0 ((aT (aI Tryz.f9)).getD 0 .skip) qI (dx gZ hG (uN (bK)) other) :=
 dL (A:=kQ) ho (fw oV (vz fY) (kQ) (Ge) (HB gJ fY gg gM eh bK) (Gd)) vA vB HC (HD)
def GX {R:Type} (gJ:qB R) (gg:qC R) (gM:cU R) (eh:mg R) (bK:kz R) (x1:List Int) (k0:Bool→Option R):Option R :=
 gJ (fun y2=>bK (List.length x1+List.length ([([123]:ah),([125]:ah),([91]:ah),([93]:ah),([44]:ah),([58]:ah),([34,97,34]:ah),([34,98,34]:ah),([49]:ah),([45,50,46,53]:ah),([116,114,117,101]:ah),([110,117,108,108]:ah),([102,97,108,115,101]:ah),([34,34]:ah),([120]:ah)]:List ah)+List.length ([]:ah)+Int.natAbs 0+64) x1 y2 ([([123]:ah),([125]:ah),([91]:ah),([93]:ah),([44]:ah),([58]:ah),([34,97,34]:ah),([34,98,34]:ah),([49]:ah),([45,50,46,53]:ah),([116,114,117,101]:ah),([110,117,108,108]:ah),([102,97,108,115,101]:ah),([34,34]:ah),([120]:ah)]:List ah) ([]:ah) 0 (fun rI rq=>eh rq (fun qV G8 KZ=>gg rq (fun DM HF Iv=>bif rI then (gM (⟨qV.kind,⟨qV.num.aF,qV.num.exp⟩,qV.text,qV.names,qV.items⟩:Json) (⟨DM.kind,⟨DM.num.aF,DM.num.exp⟩,DM.text,DM.names,DM.items⟩:Json) (fun Iu=>bif Iu then (bif (G8==HF)then (k0 (KZ==Iv))else (k0 false))else (k0 false)))else (k0 false)))))
def vh {R:Type}:Az R:=fun x1 k0=>GX gJ gg gM eh bK x1 k0
theorem OG {R:Type} (gJ:qB R) (fY:pF R) (gg:qC R) (gM:cU R) (eh:mg R) (bK:kz R):gS (R:=R) tt (oU gJ fY gg gM eh) (se R bK) false Tryz.f9 (aI Tryz.f9) vX vY (AA (GX gJ gg gM eh bK)):=fun x y k=>by kernel_rfl
theorem KW (R:Type):∀a∈aT (aI Tryz.f9),jn tt (dM (oU gJ fY gg gM eh)) (se R bK) 0 a:=by
 refine gR 1 (by kernel_rfl) fun i hi => ?_
 match i,hi with
 | 0,_=>exact cW (by kernel_rfl) (JN _ eN)
 | n+1,hi=>omega
theorem Ma (R:Type):sM Tryz.prog 9 (Qh (vh (R:=R))):=cC TT mixed (M9 (R:=R)) rfl rfl rfl rfl (KW R) (OG gJ fY gg gM eh bK)
end Go.Proofs.YtmlkkgfenfdndaaGreatDoor
/-
 Functions of the program as pure Lean functions, and the ties; printed by wip/tools/emit.py.
-/
set_option maxRecDepth 100000
namespace Go.Proofs.YtmlkkgfenfdndaaGreatDoor
open Go Go.aG
end Go.Proofs.YtmlkkgfenfdndaaGreatDoor
set_option maxRecDepth 100000
namespace Go.Proofs.YtmlkkgfenfdndaaGreatDoor
open Go Go.aG Go.Lib
structure Lone (x:vb):Prop where
 head:∃c u,x.2.1=c::u∧qJ c=false
 met:∀r,NF r→tokS (x.2.1++r)=some (x.2.2,r)
 quo:x.2.2.kind=2→pd x.2.2.text=true∧x.2.1=qtS x.2.2.text
 own:x.2.2.kind≠2→x.2.2.text=x.2.1
theorem Mr {x:vb} (h:∀r,NF r→okW [x] r) (h2:x.2.2.kind=2→pd x.2.2.text=true∧x.2.1=qtS x.2.2.text) (h3:x.2.2.kind≠2→x.2.2.text=x.2.1):Lone x:=by
 obtain ⟨_,g2,_⟩:=h [] (.inl rfl)
 exact ⟨g2,fun r hr=>(h r hr).2.2.1,h2,h3⟩
theorem JO {c:UInt8} (hc:Ic c=true):Lone (sg c):=Mr (fun r _=>DZ hc r) (fun h=>by cases h) (fun _=>rfl)
theorem lone_tx {t:ah} (ht:pd t=true):Lone (txW t):=Mr (fun r _=>UT ht r) (fun _=>⟨ht,rfl⟩) (fun h=>(h rfl).elim)
mutual
theorem loneJ:∀(v:Json) (d:Int),uB v d=true→∀x∈Ar v,Lone x
 | ⟨k,n,t,ns,is⟩,d,h,x,hx=>by
  have hL:=loneL is
  have hO:=loneO ns is
  cases mI.1 h with
  | name _ _ hd hk =>
   rcases hk with rfl|rfl|rfl
   ·obtain rfl:=List.mem_singleton.1 hx
    exact Mr (fun r hr=>DY (FF (.inr (.inr rfl))) hr) (fun h=>by cases h) (fun _=>rfl)
   ·obtain rfl:=List.mem_singleton.1 hx
    exact Mr (fun r hr=>DY (FF (.inr (.inl rfl))) hr) (fun h=>by cases h) (fun _=>rfl)
   ·obtain rfl:=List.mem_singleton.1 hx
    exact Mr (fun r hr=>DY (FF (.inl rfl)) hr) (fun h=>by cases h) (fun _=>rfl)
  | num _ _ hd hn =>
   have e:Jx n=WR n:=by unfold Jx; rw[Mq.2 hn]; rfl
   have XT:x∈([([],Jx n,⟨3,Jx n,n,0⟩)]:List vb):=hx
   obtain rfl:=List.mem_singleton.1 XT
   refine Mr (fun r hr => ?_) (fun h=>by cases h) (fun _=>rfl)
   rw[e]
   exact DY (aaf hn) hr
  | text _ _ hd ht =>
   have XT:x∈([txW t]:List vb):=hx
   obtain rfl:=List.mem_singleton.1 XT
   exact lone_tx ht
  | arr _ _ hd hi =>
   have XT:x∈([sg 91]++(sE is true ++ [sg 93]):List vb):=hx
   rw[List.mem_append,List.mem_append,List.mem_singleton,List.mem_singleton]at XT
   rcases XT with rfl|hx|rfl
   ·exact JO (by decide)
   ·exact hL true (d+1) hi x hx
   ·exact JO (by decide)
  | obj _ _ _ hd hl hu hi =>
   have XT:x∈([sg 123]++(o5 ns is true ++ [sg 125]):List vb):=hx
   rw[List.mem_append,List.mem_append,List.mem_singleton,List.mem_singleton]at XT
   rcases XT with rfl|hx|rfl
   ·exact JO (by decide)
   ·exact hO true (d+1) hi hl (fun t ht=>Vb ns [] hu t ht) x hx
   ·exact JO (by decide)
theorem loneL:∀(l:List Json) (first:Bool) (d:Int),mc l d=true→∀x∈sE l first,Lone x
 | [],_,_,_,x,hx=>by simp[sE]at hx
 | y::l,first,d,h,x,hx=>by
  simp only[mc,Bool.and_eq_true]at h
  have h1:=loneJ y d h.1
  have h2:=loneL l false d h.2
  simp only[sE,List.mem_append]at hx
  rcases hx with hx|hx|hx
  ·cases first
   ·simp at hx; rw[hx]; exact JO (by decide)
   ·simp at hx
  ·exact h1 x hx
  ·exact h2 x hx
theorem loneO:∀(ns:List ah) (l:List Json) (first:Bool) (d:Int),mc l d=true→ns.length=l.length→(∀t∈ns,pd t=true)→∀x∈o5 ns l first,Lone x
 | _, [],_,_,_,_,_,x,hx=>by simp[o5]at hx
 | [],y::l,_,_,_,hl,_,_,_=>by cases hl
 | n::ns,y::l,first,d,h,hl,hv,x,hx=>by
  simp only[mc,Bool.and_eq_true]at h
  have h1:=loneJ y d h.1
  have h2:=loneO ns l false d h.2 (by simpa using hl) (fun t ht=>hv t (by simp[ht]))
  simp only[o5,List.headD_cons,List.tail_cons,List.mem_append,List.mem_cons]at hx
  rcases hx with hx|rfl|rfl|hx|hx
  ·cases first
   ·simp at hx; rw[hx]; exact JO (by decide)
   ·simp at hx
  ·exact lone_tx (hv n (by simp))
  ·exact JO (by decide)
  ·exact h1 x hx
  ·exact h2 x hx
end
theorem qb_pos (b:UInt8):1≤(qb b).length:=by unfold qb; (repeat' split) <;> simp
theorem qtS_ge (t:ah):t.length≤(qtS t).length:=by
 have:∀l:ah,l.length≤(l.flatMap qb).length:=by
  intro l
  induction l with
  | nil=>simp
  | cons b l ih =>
   have:=qb_pos b
   simp only[List.flatMap_cons,List.length_append,List.length_cons]
   omega
 have:=this t
 unfold qtS
 simp only[List.length_cons,List.length_append]
 omega
def D4 (t:Token):Prop:=(t.kind=3→Fm t.num)∧(t.kind=2→pd t.text=true)∧(t.kind=4→B4 t.text=true)
theorem Vg {x:ah} (h:B4 x=true):∃k:Int,(k=1∨k=2∨k=3)∧sf .str (.int .i64) x Re=k:=by
 unfold B4 at h
 rw[Bool.or_eq_true,Bool.or_eq_true,beq_iff_eq,beq_iff_eq,beq_iff_eq]at h
 rcases h with rfl|rfl|rfl
 ·exact ⟨1, .inl rfl,rfl⟩
 ·exact ⟨2, .inr (.inl rfl),rfl⟩
 ·exact ⟨3, .inr (.inr rfl),rfl⟩
theorem Ir {x:ah} {ts r:List Token} (h:∀t∈ts,D4 t) (hs:gi x ts=some r):∀t∈r,D4 t:=by
 cases ts with
 | nil=>cases hs
 | cons t ts =>
  simp only[gi]at hs
  split at hs
  ·cases hs; exact fun u hu=>h u (by simp[hu])
  ·cases hs
theorem nameS_ok {ns:List ah} {ts:List Token} {p:ah × List Token} (h:∀t∈ts,D4 t) (hs:Ga ns ts = .ok p):pd p.1=true∧ns.contains p.1=false∧∀t∈p.2,D4 t:=by
 cases ts with
 | nil=>cases hs
 | cons t ts =>
  simp only[Ga]at hs
  split at hs
  ·cases hs
  ·rename_i hk
   split at hs
   ·cases hs
   ·rename_i hc
    split at hs
    ·rename_i r hr
     cases hs
     exact ⟨(h t (by simp)).2.1 (by simpa using hk),by simpa using hc,Ir (fun u hu=>h u (by simp[hu])) hr⟩
    ·cases hs
def Sound (f:List Token→Except SL (Json × List Token)) (d:Int):Prop:=∀ts p,(∀t∈ts,D4 t)→f ts = .ok p→uB p.1 d=true∧∀t∈p.2,D4 t
def Inv (obj:Bool) (d:Int) (ns:List ah) (is:List Json):Prop:=mc is d=true∧(obj=true→ns.length=is.length∧EW [] ns=true)∧(obj=false→ns = [])
theorem partS_ok {f:List Token→Except SL (Json × List Token)} {d:Int} (hf:Sound f d) {obj:Bool} {ns:List ah} {is:List Json} {ts:List Token} {p:(List ah × List Json) × List Token} (h:∀t∈ts,D4 t) (hi:Inv obj d ns is) (hs:vW f obj ns is ts = .ok p) :
  Inv obj d p.1.1 p.1.2∧∀t∈p.2,D4 t:=by
 obtain ⟨i1,i2,i3⟩:=hi
 cases obj with
 | true =>
  simp only[vW]at hs
  split at hs
  ·cases hs
  ·rename_i nm ts1 hn
   obtain ⟨g1,g2,g3⟩:=nameS_ok h hn
   split at hs
   ·cases hs
   ·rename_i v Ip hv
    obtain ⟨k1,k2⟩:=hf _ _ g3 hv
    cases hs
    obtain ⟨j1,j2⟩:=i2 rfl
    refine ⟨⟨by rw[OF,i1,k1]; rfl,fun _=>⟨by simp[j1],?_⟩,fun h=>by cases h⟩,k2⟩
    simp only at g1 g2
    rw[uniq_end,j2,g2,g1]
    rfl
 | false =>
  simp only[vW]at hs
  split at hs
  ·cases hs
  ·rename_i v Ip hv
   obtain ⟨k1,k2⟩:=hf _ _ h hv
   cases hs
   exact ⟨⟨by rw[OF,i1,k1]; rfl,(fun h=>by cases h),i3⟩,k2⟩
theorem Vh {f:List Token→Except SL (Json × List Token)} {d:Int} (hf:Sound f d) {cl:ah} {obj:Bool}:∀(m:Nat) (ns:List ah) (is:List Json) (ts:List Token) (p:(List ah × List Json) × List Token),
  (∀t∈ts,D4 t)→Inv obj d ns is→tP f cl obj m ns is ts = .ok p→Inv obj d p.1.1 p.1.2∧∀t∈p.2,D4 t
 | 0,_,_,_,_,_,_,h=>by cases h
 | m+1,ns,is,ts,p,h,hi,hs=>by
  simp only[tP]at hs
  split at hs
  ·cases hs
  ·rename_i q Ip hq
   obtain ⟨g1,g2⟩:=partS_ok hf h hi hq
   split at hs
   ·rename_i r hr
    cases hs
    exact ⟨g1,Ir g2 hr⟩
   ·split at hs
    ·rename_i r hr
     exact Vh hf m _ _ _ _ (Ir g2 hr) g1 hs
    ·cases hs
theorem Qi:∀(n:Nat) (d:Int),Sound (tQ n d) d
 | 0,_,_,_,_,h=>by cases h
 | _+1,_, [],_,_,h=>by cases h
 | n+1,d,t::r,p,ht,h=>by
  have h0:=ht t (by simp)
  have hr0:∀u∈r,D4 u:=fun u hu=>ht u (by simp[hu])
  simp only[tQ]at h
  split at h
  ·cases h
  rename_i Vs
  split at h
  ·cases h
  rename_i hd
  have hd16:d≤16:=by omega
  split at h
  ·cases FJ:t.text==([123]:ah)with
   | true =>
    rw[FJ]at h
    simp only[if_true]at h
    split at h
    ·rename_i r' hr
     cases h
     exact ⟨mI.2 (.obj [] [] d hd16 rfl rfl rfl),Ir hr0 hr⟩
    ·split at h
     ·cases h
     ·rename_i q r' hq
      cases h
      obtain ⟨⟨g1,g2,_⟩,g4⟩:=Vh (Qi n (d+1)) _ _ _ _ _ hr0 ⟨rfl,fun _=>⟨rfl,rfl⟩,fun _=>rfl⟩ hq
      obtain ⟨g5,g6⟩:=g2 rfl
      exact ⟨mI.2 (.obj _ _ d hd16 g5 g6 g1),g4⟩
   | false =>
    rw[FJ]at h
    simp only[Bool.false_eq_true,if_false]at h
    split at h
    ·rename_i r' hr
     cases h
     exact ⟨mI.2 (.arr [] d hd16 rfl),Ir hr0 hr⟩
    ·split at h
     ·cases h
     ·rename_i q r' hq
      cases h
      obtain ⟨⟨g1,_,g3⟩,g4⟩:=Vh (Qi n (d+1)) _ _ _ _ _ hr0 ⟨rfl,(fun h=>by cases h),fun _=>rfl⟩ hq
      have:=g3 rfl
      simp only at this ⊢
      rw[this]
      exact ⟨mI.2 (.arr _ d hd16 g1),g4⟩
  rename_i WC
  split at h
  ·rename_i V6
   cases h
   obtain ⟨k,hk,e⟩:=Vg V6.2
   simp only[e]
   exact ⟨mI.2 (.name k d hd16 hk),hr0⟩
  rename_i V6
  split at h
  ·rename_i hk3
   cases h
   exact ⟨mI.2 (.num _ d hd16 (h0.1 hk3)),hr0⟩
  ·rename_i hk3
   cases h
   have KX:t.kind=2:=by
    have hst':pE t=true:=by simpa using Vs
    simp only[pE,Bool.or_eq_true,Bool.and_eq_true,beq_iff_eq]at hst'
    rcases hst' with h|h|h|⟨h,h'⟩
    ·exact h
    ·exact (hk3 h).elim
    ·exact (V6 ⟨h,h0.2.2 h⟩).elim
    ·exact (WC ⟨h,h'⟩).elim
   exact ⟨mI.2 (.text _ d hd16 (h0.2.1 KX)),hr0⟩
theorem finD_fm (neg:Bool) (all:ah) (x:Int) (h:∀c∈all,me c) (ok:(Ib neg all x).2=true):Fm (Ib neg all x).1:=by
 unfold Ib at ok ⊢
 by_cases h0:cS (bB all [48]) [48] = []
 ·rw[if_pos h0]
  exact Fm.mk0
 rw[if_neg h0]at ok ⊢
 obtain ⟨f1,f2,f3⟩:=LX all h h0
 have hm:Int.tmod (jL (cS (bB all [48]) [48]) 0:Int) 10≠0:=by rw[Int.tmod_eq_emod_of_nonneg (by omega)]; omega
 cases neg with
 | true =>
  rw[if_pos rfl]at ok ⊢
  obtain ⟨e,g⟩:=mkD_fm (tmod_neg hm) ok
  rw[e]
  exact g
 | false =>
  rw[if_neg (by simp)]at ok ⊢
  obtain ⟨e,g⟩:=mkD_fm hm ok
  rw[e]
  exact g
theorem tailD_fm (neg:Bool) (all:ah) (x:Int) (X:ah) (h:∀c∈all,me c) (ok:(tailD neg all x X).2=true):Fm (tailD neg all x X).1:=by
 unfold tailD at ok ⊢
 split
 ·rename_i h1
  rw[if_pos h1]at ok
  split
  ·rename_i h2
   rw[if_pos h2]at ok
   exact finD_fm _ _ _ h ok
  ·exact Fm.mk0
 ·rename_i h1
  rw[if_neg h1]at ok
  split
  ·exact Fm.mk0
  ·rename_i h2
   rw[if_neg h2]at ok
   split
   ·rename_i h3
    rw[if_pos h3]at ok
    exact finD_fm _ _ _ h ok
   ·exact Fm.mk0
theorem parseS_fm (s:ah) (ok:(qY s).2=true):Fm (qY s).1:=by
 unfold qY at ok ⊢
 simp only at ok ⊢
 split
 ·exact Fm.mk0
 rename_i h1
 rw[if_neg h1]at ok
 split
 ·exact Fm.mk0
 rename_i h2
 rw[if_neg h2]at ok
 split
 ·exact Fm.mk0
 rename_i h3
 rw[if_neg h3]at ok
 split
 ·rename_i h4
  rw[if_pos h4]at ok
  exact tailD_fm _ _ _ _ (wQ _) ok
 ·rename_i h4
  rw[if_neg h4]at ok
  split
  ·exact Fm.mk0
  ·rename_i h5
   rw[if_neg h5]at ok
   exact tailD_fm _ _ _ _ (fun c hc=>(List.mem_append.1 hc).elim (wQ _ c) (wQ _ c)) ok
theorem uq_len:∀(n:Nat) (s o o' r:ah),uq n s o=some (o',r)→o'.length+4*r.length≤o.length+4*s.length
 | 0,_,_,_,_,h=>by cases h
 | n+1,s,o,o',r,h=>by
  simp only[uq]at h
  split at h
  ·simp only[Option.some.injEq,Prod.mk.injEq]at h
   obtain ⟨rfl,rfl⟩:=h
   rw[List.length_drop]
   omega
  ·split at h
   ·cases h
   ·rename_i c r1 hs
    have h1:=uq_len n r1 (o++enc c) o' r h
    obtain ⟨hv,hl⟩:=UG hs
    have h2:=(GM hv).2
    simp only[List.length_append]at h1
    omega
theorem tokS_ok {s r:ah} {t:Token} (h:tokS s=some (t,r)):D4 t∧t.text.length≤4*s.length:=by
 cases s with
 | nil=>cases h
 | cons c u =>
  simp only[tokS]at h
  split at h
  ·split at h
   ·rename_i hp
    simp only[Option.some.injEq,Prod.mk.injEq]at h
    rw[←h.1]
    refine ⟨⟨fun _=>parseS_fm _ hp,(fun h=>by cases h),(fun h=>by cases h)⟩,?_⟩
    have:=(List.takeWhile_prefix (l:=c::u) sD).length_le
    simp only
    omega
   ·cases h
  ·split at h
   ·split at h
    ·rename_i o q hq
     simp only[Option.some.injEq,Prod.mk.injEq]at h
     rw[←h.1]
     obtain ⟨_,_,rs,h3,h4⟩:=Yq hq
     refine ⟨⟨(fun h=>by cases h),fun _=>WL.2 ⟨rs,h3,h4⟩,(fun h=>by cases h)⟩,?_⟩
     unfold Z4 at hq
     split at hq
     ·have:=uq_len _ _ _ _ _ hq
      rw[List.length_drop]at this
      simp only[List.length_nil,List.length_cons]at this ⊢
      omega
     ·cases hq
    ·cases h
   ·split at h
    ·simp only[Option.some.injEq,Prod.mk.injEq]at h
     rw[←h.1]
     exact ⟨⟨(fun h=>by cases h),(fun h=>by cases h),(fun h=>by cases h)⟩,by simp; omega⟩
    ·split at h
     ·rename_i hw
      simp only[Option.some.injEq,Prod.mk.injEq]at h
      rw[←h.1]
      refine ⟨⟨(fun h=>by cases h),(fun h=>by cases h),fun _ => ?_⟩,?_⟩
      ·rcases hw with hw|hw|hw <;> simp only[hw] <;> rfl
      ·have:=(List.takeWhile_prefix (l:=c::u) pr).length_le
       simp only
       omega
     ·cases h
def fineT (t:Token):Prop:=D4 t∧t.text.length≤80000
theorem Vi:∀(n p:Nat) (s:ah) (out:List Token),s.length≤20000→(∀t∈out,fineT t)→∀t∈(r4 n p s out).1,fineT t
 | 0,_,_,_,_,_=>by intro t ht; cases ht
 | n+1,p,s,out,hs,ho=>by
  simp only[r4]
  split
  ·intro t ht
   rcases List.mem_append.1 ht with ht|ht
   ·exact ho t ht
   ·obtain rfl:=List.mem_singleton.1 ht
    exact ⟨⟨(fun h=>by cases h),(fun h=>by cases h),(fun h=>by cases h)⟩,by simp⟩
  ·have hd:=vH qJ s
   split
   ·intro t ht; cases ht
   ·rename_i t r hr
    have h3:=(tokS_sfx hr).2
    obtain ⟨g1,g2⟩:=tokS_ok hr
    refine Vi n _ r _ (by omega) fun x hx => ?_
    rcases List.mem_append.1 hx with hx|hx
    ·exact ho x hx
    ·obtain rfl:=List.mem_singleton.1 hx
     exact ⟨g1,by show t.text.length≤80000; omega⟩
theorem scanS_fine (s:ah):∀t∈(nH s).1,fineT t:=by
 unfold nH
 split
 ·intro t ht; cases ht
 ·exact Vi _ _ _ _ (by omega) (by intro t ht; cases ht)
def tokN (t:Token):Nat:=6*t.text.length+70
def tokL:List Token→Nat
 | []=>0
 | t::l=>tokN t+tokL l
theorem tokL_le:∀(l:List Token),(∀t∈l,fineT t)→tokL l≤l.length*480070
 | [],_=>Nat.le_refl _
 | t::l,h=>by
  have h1:=tokL_le l fun x hx=>h x (by simp[hx])
  have h2:=(h t (by simp)).2
  simp only[tokL,tokN,List.length_cons]
  omega
theorem Gf {x:ah} {ts r:List Token} (hs:gi x ts=some r):tokL r+70≤tokL ts:=by
 cases ts with
 | nil=>cases hs
 | cons t ts =>
  simp only[gi]at hs
  split at hs
  ·cases hs; simp only[tokL,tokN]; omega
  ·cases hs
theorem nameS_size {ns:List ah} {ts:List Token} {p:ah × List Token} (hs:Ga ns ts = .ok p):(qtS p.1).length+tokL p.2+130≤tokL ts:=by
 cases ts with
 | nil=>cases hs
 | cons t ts =>
  simp only[Ga]at hs
  split at hs
  ·cases hs
  ·split at hs
   ·cases hs
   ·split at hs
    ·rename_i r hr
     cases hs
     have h1:=Gf hr
     have h2:=Qg t.text
     simp only[tokL,tokN]
     omega
    ·cases hs
def Sized (f:List Token→Except SL (Json × List Token)):Prop:=∀ts p,(∀t∈ts,D4 t)→f ts = .ok p→(kH p.1).length+tokL p.2≤tokL ts
def RW (obj:Bool) (ns:List ah) (is:List Json):Nat:=if obj then (tz ns is true).length else (uC is true).length
theorem partS_size {f:List Token→Except SL (Json × List Token)} {d:Int} (hs0:Sound f d) (hf:Sized f) {obj:Bool} {ns:List ah} {is:List Json} {ts:List Token} {p:(List ah × List Json) × List Token} (h:∀t∈ts,D4 t) (hi:Inv obj d ns is) (hs:vW f obj ns is ts = .ok p) :
  RW obj p.1.1 p.1.2+tokL p.2≤RW obj ns is+1+tokL ts:=by
 obtain ⟨i1,i2,i3⟩:=hi
 cases obj with
 | true =>
  simp only[vW]at hs
  split at hs
  ·cases hs
  ·rename_i nm ts1 hn
   obtain ⟨_,_,g3⟩:=nameS_ok h hn
   have g4:=nameS_size hn
   split at hs
   ·cases hs
   ·rename_i v Ip hv
    have k1:=hf _ _ g3 hv
    cases hs
    have:=Vd ns is nm v true (i2 rfl).1
    simp only[RW,if_true]at g4 k1 ⊢
    omega
 | false =>
  simp only[vW]at hs
  split at hs
  ·cases hs
  ·rename_i v Ip hv
   have k1:=hf _ _ h hv
   cases hs
   have:=Vc is v true
   simp only[RW,Bool.false_eq_true,if_false]at k1 ⊢
   omega
theorem OH {f:List Token→Except SL (Json × List Token)} {d:Int} (hs0:Sound f d) (hf:Sized f) {cl:ah} {obj:Bool}:∀(m:Nat) (ns:List ah) (is:List Json) (ts:List Token) (p:(List ah × List Json) × List Token),
  (∀t∈ts,D4 t)→Inv obj d ns is→tP f cl obj m ns is ts = .ok p→RW obj p.1.1 p.1.2+tokL p.2+60≤RW obj ns is+1+tokL ts
 | 0,_,_,_,_,_,_,h=>by cases h
 | m+1,ns,is,ts,p,h,hi,hs=>by
  simp only[tP]at hs
  split at hs
  ·cases hs
  ·rename_i q Ip hq
   obtain ⟨g1,g2⟩:=partS_ok hs0 h hi hq
   have g3:=partS_size hs0 hf h hi hq
   split at hs
   ·rename_i r hr
    cases hs
    have g4:=Gf hr
    simp only at g3 g4 ⊢
    omega
   ·split at hs
    ·rename_i r hr
     have g4:=Gf hr
     have g5:=OH hs0 hf m _ _ _ _ (Ir g2 hr) g1 hs
     simp only at g3 g4 g5 ⊢
     omega
    ·cases hs
theorem printJ_name {k:Int} (hk:k=1∨k=2∨k=3):(kH ⟨k,⟨0,0⟩, [], [], []⟩).length≤60:=by
 rcases hk with rfl|rfl|rfl <;> decide
theorem Rn:∀(n:Nat) (d:Int),Sized (tQ n d)
 | 0,_,_,_,_,h=>by cases h
 | _+1,_, [],_,_,h=>by cases h
 | n+1,d,t::r,p,ht,h=>by
  have h0:=ht t (by simp)
  have hr0:∀u∈r,D4 u:=fun u hu=>ht u (by simp[hu])
  have et:tokL (t::r)=tokN t+tokL r:=rfl
  have en:tokN t=6*t.text.length+70:=rfl
  simp only[tQ]at h
  split at h
  ·cases h
  split at h
  ·cases h
  split at h
  ·cases FJ:t.text==([123]:ah)with
   | true =>
    rw[FJ]at h
    simp only[if_true]at h
    split at h
    ·rename_i r' hr
     cases h
     have:=Gf hr
     show 2+tokL r'≤_
     omega
    ·split at h
     ·cases h
     ·rename_i q r' hq
      cases h
      have g:=OH (Qi n (d+1)) (Rn n (d+1)) _ _ _ _ _ hr0 ⟨rfl,fun _=>⟨rfl,rfl⟩,fun _=>rfl⟩ hq
      have e:kH ⟨7,⟨0,0⟩, [],q.1,q.2⟩=123::(tz q.1 q.2 true ++ [125]):=by simp only[kH]; rfl
      simp only[RW,if_true,tz,List.length_nil]at g
      show (kH ⟨7,⟨0,0⟩, [],q.1,q.2⟩).length+tokL r'≤_
      rw[e]
      simp only[List.length_cons,List.length_append,List.length_nil]
      omega
   | false =>
    rw[FJ]at h
    simp only[Bool.false_eq_true,if_false]at h
    split at h
    ·rename_i r' hr
     cases h
     have:=Gf hr
     show 2+tokL r'≤_
     omega
    ·split at h
     ·cases h
     ·rename_i q r' hq
      cases h
      have g:=OH (Qi n (d+1)) (Rn n (d+1)) _ _ _ _ _ hr0 ⟨rfl,(fun h=>by cases h),fun _=>rfl⟩ hq
      have e:kH ⟨6,⟨0,0⟩, [],q.1,q.2⟩=91::(uC q.2 true ++ [93]):=by simp only[kH]; rfl
      simp only[RW,Bool.false_eq_true,if_false,uC,List.length_nil]at g
      show (kH ⟨6,⟨0,0⟩, [],q.1,q.2⟩).length+tokL r'≤_
      rw[e]
      simp only[List.length_cons,List.length_append,List.length_nil]
      omega
  rename_i WC
  split at h
  ·rename_i V6
   cases h
   obtain ⟨k,hk,e⟩:=Vg V6.2
   have:=printJ_name hk
   simp only[e]
   omega
  rename_i V6
  split at h
  ·rename_i hk3
   cases h
   have:=prtA_len (h0.1 hk3)
   have e:kH ⟨4,t.num, [], [], []⟩=Jx t.num:=by simp only[kH]; rfl
   simp only[e]
   omega
  ·cases h
   have:=Qg t.text
   have e:kH ⟨5,⟨0,0⟩,t.text, [], []⟩=qtS t.text:=by simp only[kH]; rfl
   simp only[e]
   omega
mutual
theorem Ro:∀(v:Json) (d:Int),uB v d=true→(kH v).length≤10000000000→SG v=true∧1≤(kH v).length
 | ⟨k,n,t,ns,is⟩,d,h,hl=>by
  have hL:=Vj is true
  have hO:=Vk ns is true
  cases mI.1 h with
  | name _ _ hd hk=>rcases hk with rfl|rfl|rfl <;> exact ⟨rfl,by decide⟩
  | num _ _ hd hn =>
   refine ⟨rfl,?_⟩
   have:=print_ne ⟨4,n, [], [], []⟩ (by rw[mI]; exact .num n 1 (by omega) hn)
   cases hp:kH ⟨4,n, [], [], []⟩with
   | nil=>exact (this hp).elim
   | cons _ _=>simp
  | text _ _ hd ht =>
   have e:kH ⟨5,⟨0,0⟩,t, [], []⟩=qtS t:=by simp only[kH]; rfl
   have:=qtS_ge t
   rw[e]at hl ⊢
   exact ⟨L0.2 ⟨by simp,by simp,rfl,by simp only; omega,by simp⟩,by simp[qtS]⟩
  | arr _ _ hd hi =>
   have e:kH ⟨6,⟨0,0⟩, [], [],is⟩=91::(uC is true ++ [93]):=by simp only[kH]; rfl
   rw[e]at hl ⊢
   simp only[List.length_cons,List.length_append,List.length_nil]at hl
   obtain ⟨g1,g2⟩:=hL (d+1) hi (by omega)
   exact ⟨L0.2 ⟨by simp,by simp only; omega,g1,by simp,by simp⟩,by simp⟩
  | obj _ _ _ hd hlen hu hi =>
   have e:kH ⟨7,⟨0,0⟩, [],ns,is⟩=123::(tz ns is true ++ [125]):=by simp only[kH]; rfl
   rw[e]at hl ⊢
   simp only[List.length_cons,List.length_append,List.length_nil]at hl
   obtain ⟨g1,g2,g3⟩:=hO (d+1) hi hlen (by omega)
   exact ⟨L0.2 ⟨by simp only; omega,by simp only; omega,g1,by simp,g3⟩,by simp⟩
theorem Vj:∀(l:List Json) (first:Bool) (d:Int),mc l d=true→(uC l first).length≤10000000000→SH l=true∧l.length≤(uC l first).length
 | [],_,_,_,_=>⟨rfl,by simp⟩
 | x::l,first,d,h,hl=>by
  simp only[mc,Bool.and_eq_true]at h
  have h1:=Ro x d h.1
  have h2:=Vj l false d h.2
  simp only[uC,List.length_append]at hl ⊢
  obtain ⟨a1,a2⟩:=h1 (by omega)
  obtain ⟨b1,b2⟩:=h2 (by omega)
  refine ⟨by simp only[SH,a1,b1]; rfl,?_⟩
  simp only[List.length_cons]
  omega
theorem Vk:∀(ns:List ah) (l:List Json) (first:Bool) (d:Int),mc l d=true→ns.length=l.length→(tz ns l first).length≤10000000000→SH l=true∧l.length≤(tz ns l first).length∧∀n∈ns,n.length≤10000000000
 | ns, [],_,_,_,hlen,_=>by
  obtain rfl:ns = []:=List.eq_nil_of_length_eq_zero hlen
  exact ⟨rfl,by simp,by simp⟩
 | [],x::l,_,_,_,hlen,_=>by cases hlen
 | n::ns,x::l,first,d,h,hlen,hl=>by
  simp only[mc,Bool.and_eq_true]at h
  have h1:=Ro x d h.1
  have h2:=Vk ns l false d h.2 (by simpa using hlen)
  simp only[tz,List.length_append,List.headD_cons,List.tail_cons,List.length_cons]at hl ⊢
  obtain ⟨a1,a2⟩:=h1 (by omega)
  obtain ⟨b1,b2,b3⟩:=h2 (by omega)
  have h3:=qtS_ge n
  refine ⟨by simp only[SH,a1,b1]; rfl,by omega,fun m hm => ?_⟩
  rcases List.mem_cons.1 hm with rfl|hm
  ·omega
  ·exact b3 m hm
end
theorem parseJ_ok (s:ah) (h:(vy s).2.1=0):uB (vy s).1 1=true∧SG (vy s).1=true∧(kH (vy s).1).length≤10000000000:=by
 unfold vy at h ⊢
 by_cases h0:(nH s).2.1=0
 rotate_left
 ·rw[if_pos h0]at h
  exact (h0 h).elim
 rw[if_neg (by simpa using h0)]at h ⊢
 have hf:=scanS_fine s
 have hlen:=Ri s
 cases hq:tQ 40 1 (nH s).1 with
 | error b =>
  rw[hq]at h
  simp only at h
  have hb:b.1≠0:=by
   have hv:=value_ok (R:=Unit) 20002 (by omega) 40 1 (by omega) (by omega) (by omega) (nH s).1 (Rj s h0) hlen
   rw[hq]at hv
   exact hv.1.2
  exact (hb h).elim
 | ok p =>
  rw[hq]at h
  obtain ⟨v,r⟩:=p
  simp only at h ⊢
  split
  ·rename_i hk
   rw[if_pos hk]at h
   cases h
  ·obtain ⟨g1,_⟩:=Qi 40 1 _ _ (fun t ht=>(hf t ht).1) hq
   have g2:=Rn 40 1 _ _ (fun t ht=>(hf t ht).1) hq
   have g3:=tokL_le _ hf
   simp only at g1 g2 ⊢
   have g4:(kH v).length≤10000000000:=by
    have:(nH s).1.length*480070≤20002*480070:=Nat.mul_le_mul_right _ hlen
    omega
   exact ⟨g1,(Ro v 1 g1 g4).1,g4⟩
theorem parseJ_none (s:ah) (h:(vy s).2.1≠0):(vy s).1=⟨0,⟨0,0⟩, [], [], []⟩:=by
 unfold vy at h ⊢
 split
 ·rfl
 ·rename_i h0
  rw[if_neg h0]at h
  split
  ·rfl
  ·rename_i hv
   rw[hv]at h
   simp only at h ⊢
   split
   ·rfl
   ·rename_i hk
    rw[if_neg hk]at h
    exact (h rfl).elim
abbrev SU:Json:=⟨0,⟨0,0⟩, [], [], []⟩
theorem zB {T:List Token} {p:Nat} {t:Token} {r:List Token} (h:T.drop p=t::r) (d:Token):T.getD ((p:Int)).toNat d=t∧T.drop (p+1)=r∧p<T.length:=by
 have hp:p<T.length:=by
  rcases Nat.lt_or_ge p T.length with h'|h'
  ·exact h'
  ·rw[List.drop_eq_nil_of_le h']at h; cases h
 rw[List.drop_eq_getElem_cons hp]at h
 simp only[List.cons.injEq]at h
 refine ⟨?_,h.2,hp⟩
 rw[Int.toNat_natCast,List.getD_eq_getElem?_getD,List.getElem?_eq_getElem hp]
 exact h.1
theorem Xc {a b:ah} (hab:a≠b) {ts r:List Token} (h:gi a ts=some r):gi b ts=none:=by
 cases ts with
 | nil=>cases h
 | cons t ts =>
  simp only[gi]at h ⊢
  split at h
  ·rename_i hc
   rw[if_neg (fun g=>hab (hc.2.symm.trans g.2))]
  ·cases h
theorem Vl {R:Type} (x:ah) {T:List Token} {p:Nat} (hT:T.length≤1000000000) (hn:T.drop p ≠ []) (k:Bool→List Token→Int→Int→Option R) :
  aq x T (p:Int) 0 k=match gi x (T.drop p)with|some _=>k true T ((p+1:Nat):Int) 0|none=>k false T (p:Int) 0:=by
 cases hd:T.drop p with
 | nil=>exact (hn hd).elim
 | cons t r =>
  obtain ⟨h1,h2,h3⟩:=zB hd (Ty.bU .token)
  have c1:(decide ((0:Int)≤(p:Int))&&decide ((p:Int)<(T.length:Int)))=true:=by simp; omega
  have hw:IntKind.i64.wrap ((p:Int)+1)=((p+1:Nat):Int):=by rw[bw (by omega) (by omega)]; omega
  have e0:aq x T (p:Int) 0 k=kq x T (p:Int) 0 k:=rfl
  rw[e0]
  unfold kq
  rw[h1,aS c1,aS c1,hw]
  simp only[gi]
  by_cases k1:t.kind=1
  ·have b1:(t.kind==1)=true:=by simpa using k1
   by_cases k2:t.text=x
   ·have b2:(t.text==x)=true:=by simpa using k2
    rw[if_pos ⟨k1,k2⟩,b1,b2]
    rfl
   ·have b2:(t.text==x)=false:=by simpa using k2
    rw[if_neg (fun h=>k2 h.2),b1,b2]
    rfl
  ·have b1:(t.kind==1)=false:=by simpa using k1
   rw[if_neg (fun h=>k1 h.1),b1]
   rfl
theorem YF {R:Type} (x:ah) (T:List Token) (p c:Int) (hc:c≠0) (k:Bool→List Token→Int→Int→Option R):aq x T p c k=k false T p c:=by
 have e0:aq x T p c k=kq x T p c k:=rfl
 rw[e0]
 unfold kq
 have:(c==0)=false:=by simpa using hc
 rw[this]
 rfl
theorem Vm {R:Type} (x:ah) {T:List Token} {p:Nat} (hT:T.length≤1000000000) (hn:T.drop p ≠ []) (k:List Token→Int→Int→Option R) :
  aE x T (p:Int) 0 k=match gi x (T.drop p)with|some _=>k T ((p+1:Nat):Int) 0|none=>k T (p:Int) 40:=by
 have e0:aE x T (p:Int) 0 k=iO aq x T (p:Int) 0 k:=rfl
 rw[e0]
 unfold iO
 rw[Vl x hT hn]
 cases gi x (T.drop p) <;> rfl
theorem Vn {R:Type} (x:ah) (T:List Token) (p c:Int) (hc:c≠0) (k:List Token→Int→Int→Option R):aE x T p c k=k T p c:=by
 have e0:aE x T p c k=iO aq x T p c k:=rfl
 rw[e0]
 unfold iO
 rw[YF x T p c hc]
 have:(c==0)=false:=by simpa using hc
 rw[this]
 rfl
theorem has_loop {R:Type} (ns:List ah) (x:ah) (hl:ns.length≤1099511627776) (k:Bool→Option R):∀(F i:Nat),i≤ns.length→ns.length - i<F→du F ns x (i:Int) (k false) (fun y=>k y)=k ((ns.drop i).contains x):=by
 intro F
 induction F with
 | zero=>intro i _ h; omega
 | succ F ih =>
  intro i hi hF
  show zy (fun x0 x1 x2=>du F x0 x1 x2 _ _) ns x (i:Int) _ _=_
  unfold zy
  by_cases h:i<ns.length
  ·have h1:decide ((i:Int)<(ns.length:Int))=true:=by simp; omega
   have c1:(decide ((0:Int)≤(i:Int))&&decide ((i:Int)<(ns.length:Int)))=true:=by simp; omega
   have hw:IntKind.i64.wrap ((i:Int)+1)=((i+1:Nat):Int):=by rw[bw (by omega) (by omega)]; omega
   have hg:ns.getD (i:Int).toNat (Ty.bU .str)=ns[i]:=getD_at h _
   rw[h1,cond_true,aS (by simpa [h1]using c1),hg,List.drop_eq_getElem_cons h,List.contains_cons]
   have hsym:(x==ns[i])=(ns[i]==x):=by rw[Bool.eq_iff_iff,beq_iff_eq,beq_iff_eq]; exact eq_comm
   cases hq:ns[i]==x with
   | true=>rw[cond_true,hsym,hq,Bool.true_or]
   | false =>
    rw[cond_false,hsym,hq,Bool.false_or,hw]
    exact ih (i+1) (by omega) (by omega)
  ·have h1:decide ((i:Int)<(ns.length:Int))=false:=by simp; omega
   rw[h1,cond_false,List.drop_eq_nil_of_le (by omega)]
   rfl
theorem has_ok {R:Type} (ns:List ah) (x:ah) (hl:ns.length≤1099511627776) (k:Bool→Option R):fC ns x k=k (ns.contains x):=by
 have:=has_loop ns x hl k (List.length ns+List.length x+Int.natAbs 0+64) 0 (by omega) (by omega)
 rw[List.drop_zero]at this
 exact this
def kindOk (t:Token):Prop:=(t.kind=1∨t.kind=2∨t.kind=3∨t.kind=4∨t.kind=5)∧(t.kind=4→B4 t.text=true)
def RokV {R:Type} (gX:aD R) (d:Int) (T:List Token) (p:Nat) (q:Json × List Token):Prop :=
 xw q.2∧∃p':Nat,T.drop p'=q.2∧∀k:Json→List Token→Int→Int→Option R,gX d T (p:Int) 0 k=k q.1 T (p':Int) 0
def RbadV {R:Type} (gX:aD R) (d:Int) (T:List Token) (p:Nat) (b:SL):Prop :=
 (xw b.2∧b.1≠0)∧∃(v:Json) (p':Nat),T.drop p'=b.2∧∀k:Json→List Token→Int→Int→Option R,gX d T (p:Int) 0 k=k v T (p':Int) b.1
def HvalR {R:Type} (gX:aD R) (f:List Token→Except SL (Json × List Token)) (d:Int) (T:List Token):Prop :=
 (∀(p c:Int),c≠0→∀k:Json→List Token→Int→Int→Option R,gX d T p c k=k SU T p c) ∧
 ∀p:Nat,xw (T.drop p)→Yw (RokV gX d T p) (RbadV gX d T p) (f (T.drop p))
section
variable {R:Type} (gX:aD R) (f:List Token→Except SL (Json × List Token)) (hfl:∀ts p,f ts = .ok p→p.2.length<ts.length) (d:Int) (hd:0≤d∧d≤16) (T:List Token) (hT:T.length≤100000000)
 (hv:HvalR gX f (d+1) T) (c1 c2 c3:Int) (c4:ah) (c5 c6 c7:Int) (c8:ah)
include hfl hd hT hv
theorem rarr_loop:∀(F m:Nat) (is:List Json) (p n:Nat),(T.drop p).length+1<F→(T.drop p).length<m→xw (T.drop p)→is.length+(T.drop p).length≤1000000000 →
  Yw (fun q:(List ah × List Json) × List Token=>xw q.2∧q.1.1 = []∧∃(p' n':Nat),T.drop p'=q.2∧∀e0,az gX F d false T (p:Int) 0 c1 c2 c3 c4 c5 c6 c7 c8 n is e0=e0 T (p':Int) 0 c1 c2 c3 c4 c5 c6 c7 c8 n' q.1.2)
   (fun b=>(xw b.2∧b.1≠0)∧∃(p' n':Nat) (is':List Json),T.drop p'=b.2∧∀e0,az gX F d false T (p:Int) 0 c1 c2 c3 c4 c5 c6 c7 c8 n is e0=e0 T (p':Int) b.1 c1 c2 c3 c4 c5 c6 c7 c8 n' is')
   (tP f [93] false m [] is (T.drop p)):=by
 have P3:∀(F:Nat) (p c:Int) (n:Nat) (is:List Json) e0,az gX (F+1) d true T p c c1 c2 c3 c4 c5 c6 c7 c8 n is e0=e0 T p c c1 c2 c3 c4 c5 c6 c7 c8 n is:=fun F p c n is e0=>rfl
 intro F
 induction F with
 | zero=>intro m is p n h; omega
 | succ F ih =>
  intro m is p n hF hm he his
  obtain ⟨m,rfl⟩:∃j,m=j+1:=⟨m - 1,by omega⟩
  obtain ⟨F,rfl⟩:∃j,F=j+1:=⟨F - 1,by have:0<(T.drop p).length:=List.length_pos_iff.2 he.ne; omega⟩
  have hw:IntKind.i64.wrap (d+1)=d+1:=bw (by omega) (by omega)
  have ck:decide ((is.length+1)*88≤140737488355328)=true:=by rw[decide_eq_true_eq]; omega
  have e1:∀e0,az gX (F+1+1) d false T (p:Int) 0 c1 c2 c3 c4 c5 c6 c7 c8 n is e0 =
    gX (IntKind.i64.wrap (d+1)) T (p:Int) 0 (fun D5 I8 RN Si=>cu (decide ((is.length+1)*88≤140737488355328)) (aq [44] I8 RN Si (fun S9 Sj Vu WS=>bif (!S9)then (aE [93] Sj Vu WS (fun VT Sk X6=>az gX (F+1) d true VT Sk X6 c1 c2 c3 c4 c5 c6 c7 c8 (is.length+1) (is ++ [⟨D5.kind,⟨D5.num.aF,D5.num.exp⟩,D5.text,D5.names,D5.items⟩]) e0))else az gX (F+1) d false Sj Vu WS c1 c2 c3 c4 c5 c6 c7 c8 (is.length+1) (is ++ [⟨D5.kind,⟨D5.num.aF,D5.num.exp⟩,D5.text,D5.names,D5.items⟩]) e0))):=fun e0=>rfl
  simp only[Json.eta]at e1
  have h2:=hv.2 p he
  simp only[tP,vW]
  cases hf:f (T.drop p)with
  | error q =>
   rw[hf]at h2
   obtain ⟨⟨g1,g2⟩,v,p',g3,g4⟩:=h2
   refine ⟨⟨g1,g2⟩,p',is.length+1,is ++ [v],g3,fun e0 => ?_⟩
   rw[e1,hw,g4,aS ck,YF _ _ _ _ g2,Bool.not_false,cond_true,Vn _ _ _ _ g2,P3]
  | ok q =>
   obtain ⟨v,Ip⟩:=q
   rw[hf]at h2
   obtain ⟨g1,p',g3,g4⟩:=h2
   have hlen:=hfl _ _ hf
   simp only at g1 g3 g4 hlen ⊢
   have ju:T.drop p' ≠ []:=by rw[g3]; exact g1.ne
   have s1:=fun k:Bool→List Token→Int→Int→Option R=>Vl [44] (p:=p') (by omega) ju k
   have s2:=fun k:List Token→Int→Int→Option R=>Vm [93] (p:=p') (by omega) ju k
   rw[g3]at s1 s2
   cases hs:gi [93] Ip with
   | some r =>
    have Vo:=Xc (b := [44]) (by decide) hs
    rw[Vo]at s1
    rw[hs]at s2
    simp only at s1 s2
    have SF:T.drop (p'+1)=r:=by
     cases Ip with
     | nil=>cases hs
     | cons t u =>
      simp only[gi]at hs
      split at hs
      ·cases hs; exact (zB g3 (Ty.bU .token)).2.1
      ·cases hs
    refine ⟨rG g1 hs,rfl,p'+1,is.length+1,SF,fun e0 => ?_⟩
    rw[e1,hw,g4,aS ck,s1,Bool.not_false,cond_true,s2,P3]
   | none =>
    simp only
    cases Vo:gi [44] Ip with
    | none =>
     rw[Vo]at s1
     rw[hs]at s2
     simp only at s1 s2
     refine ⟨⟨g1,by show (_:Int)≠0; simp⟩,p',is.length+1,is ++ [v],g3,fun e0 => ?_⟩
     rw[e1,hw,g4,aS ck,s1,Bool.not_false,cond_true,s2,P3]
    | some r =>
     rw[Vo]at s1
     simp only at s1
     have hl3:=xu Vo
     have SF:T.drop (p'+1)=r:=by
      cases Ip with
      | nil=>cases Vo
      | cons t u =>
       simp only[gi]at Vo
       split at Vo
       ·cases Vo; exact (zB g3 (Ty.bU .token)).2.1
       ·cases Vo
     have hih:=ih m (is ++ [v]) (p'+1) (is.length+1) (by rw[SF]; omega) (by rw[SF]; omega) (by rw[SF]; exact rG g1 Vo) (by rw[SF]; simp; omega)
     rw[SF]at hih
     have e3:∀e0,az gX (F+1+1) d false T (p:Int) 0 c1 c2 c3 c4 c5 c6 c7 c8 n is e0=az gX (F+1) d false T ((p'+1:Nat):Int) 0 c1 c2 c3 c4 c5 c6 c7 c8 (is.length+1) (is ++ [v]) e0:=fun e0=>by
      rw[e1,hw,g4,aS ck,s1,Bool.not_true,cond_false]
     simp only[e3]
     exact hih
theorem robj_loop:∀(F m:Nat) (ns:List ah) (is:List Json) (p n:Nat),(T.drop p).length+1<F→(T.drop p).length<m→xw (T.drop p)→is.length+(T.drop p).length≤1000000000→ns.length+(T.drop p).length≤1000000000 →
  Yw (fun q:(List ah × List Json) × List Token=>xw q.2∧∃(p' n':Nat),T.drop p'=q.2∧∀e0,ax gX F d false T (p:Int) 0 c1 c2 c3 c4 c5 c6 c7 c8 ns n is e0=e0 T (p':Int) 0 c1 c2 c3 c4 c5 c6 c7 c8 q.1.1 n' q.1.2)
   (fun b=>(xw b.2∧b.1≠0)∧∃(p' n':Nat) (ns':List ah) (is':List Json),T.drop p'=b.2∧∀e0,ax gX F d false T (p:Int) 0 c1 c2 c3 c4 c5 c6 c7 c8 ns n is e0=e0 T (p':Int) b.1 c1 c2 c3 c4 c5 c6 c7 c8 ns' n' is')
   (tP f [125] true m ns is (T.drop p)):=by
 have P3:∀(F:Nat) (p c:Int) (ns:List ah) (n:Nat) (is:List Json) e0,ax gX (F+1) d true T p c c1 c2 c3 c4 c5 c6 c7 c8 ns n is e0=e0 T p c c1 c2 c3 c4 c5 c6 c7 c8 ns n is:=fun F p c ns n is e0=>rfl
 intro F
 induction F with
 | zero=>intro m ns is p n h; omega
 | succ F ih =>
  intro m ns is p n hF hm he his WG
  obtain ⟨m,rfl⟩:∃j,m=j+1:=⟨m - 1,by omega⟩
  obtain ⟨F,rfl⟩:∃j,F=j+1:=⟨F - 1,by have:0<(T.drop p).length:=List.length_pos_iff.2 he.ne; omega⟩
  have hw:IntKind.i64.wrap (d+1)=d+1:=bw (by omega) (by omega)
  have ck:decide ((is.length+1)*88≤140737488355328)=true:=by rw[decide_eq_true_eq]; omega
  have ck2:decide ((ns.length+1)*16≤140737488355328)=true:=by rw[decide_eq_true_eq]; omega
  cases hdp:T.drop p with
  | nil=>exact (he.ne hdp).elim
  | cons t ts =>
  rw[hdp]at he hF hm his WG
  obtain ⟨h1,h2,h3⟩:=zB hdp (Ty.bU .token)
  have hwp:IntKind.i64.wrap ((p:Int)+1)=((p+1:Nat):Int):=by rw[bw (by omega) (by omega)]; omega
  have cp:(decide ((0:Int)≤(p:Int))&&decide ((p:Int)<(T.length:Int)))=true:=by simp; omega
  have e1:∀e0,ax gX (F+1+1) d false T (p:Int) 0 c1 c2 c3 c4 c5 c6 c7 c8 ns n is e0 =
    (bif (t.kind != 2)then (e0 T (p:Int) 40 c1 c2 c3 c4 c5 c6 c7 c8 ns n is)else (fC ns t.text (fun y72=>bif y72 then (e0 T (p:Int) 42 c1 c2 c3 c4 c5 c6 c7 c8 ns n is)else (aE [58] T ((p+1:Nat):Int) 0 (fun y73 y74 y75=>gX (d+1) y73 y74 y75 (fun YM y77 y78 y79=>aq [44] y77 y78 y79 (fun y80 y81 y82 y83=>bif (!y80)then (aE [125] y81 y82 y83 (fun y84 y85 y86=>ax gX (F+1) d true y84 y85 y86 c1 c2 c3 c4 c5 c6 c7 c8 (ns ++ [t.text]) (is.length+1) (is ++ [YM]) e0))else ax gX (F+1) d false y81 y82 y83 c1 c2 c3 c4 c5 c6 c7 c8 (ns ++ [t.text]) (is.length+1) (is ++ [YM]) e0)))))):Option R):=fun e0=>by
   have e2:ax gX (F+1+1) d false T (p:Int) 0 c1 c2 c3 c4 c5 c6 c7 c8 ns n is e0=ku aq aE gX fC (fun x0 x1 x2 x3 x4 x5 x6 x7 x8 x9 x10 x11 PI Kr NA rW=>ax gX (F+1) x0 x1 x2 x3 x4 x5 x6 x7 x8 x9 x10 x11 PI Kr NA rW e0) d false T (p:Int) 0 c1 c2 c3 c4 c5 c6 c7 c8 ns n is e0:=rfl
   rw[e2]
   unfold ku
   simp only[Json.eta]
   rw[Bool.not_false,cond_true,show ((0:Int)==0)=true from rfl,cond_true,h1,aS cp,hwp]
   simp only[aS ck2,aS ck,hw]
  simp only[tP,vW,Ga]
  by_cases hk:t.kind=2
  rotate_left
  ·have b1:(t.kind != 2)=true:=by simpa using hk
   rw[if_pos hk]
   exact ⟨⟨he,by show (_:Int)≠0; simp⟩,p,n,ns,is,hdp,fun e0=>by rw[e1,b1,cond_true]⟩
  have b1:(t.kind != 2)=false:=by simpa using hk
  have he1:=he.tail (by rw[hk]; decide)
  have hhas:=fun k:Bool→Option R=>has_ok ns t.text (by omega) k
  rw[if_neg (by simp[hk])]
  cases hc:ns.contains t.text with
  | true =>
   rw[hc]at hhas
   rw[if_pos rfl]
   exact ⟨⟨he,by show (_:Int)≠0; simp⟩,p,n,ns,is,hdp,fun e0=>by rw[e1,b1,cond_false,hhas,cond_true]⟩
  | false =>
  rw[hc]at hhas
  rw[if_neg (by simp)]
  have hne1:T.drop (p+1) ≠ []:=by rw[h2]; exact he1.ne
  have s0:=fun k:List Token→Int→Int→Option R=>Vm [58] (p:=p+1) (by omega) hne1 k
  rw[h2]at s0
  cases YG:gi [58] ts with
  | none =>
   rw[YG]at s0
   simp only at s0
   refine ⟨⟨he1,by show (_:Int)≠0; simp⟩,p+1,is.length+1,ns ++ [t.text],is ++ [SU],h2,fun e0 => ?_⟩
   have hc40:(40:Int)≠0:=by decide
   rw[e1,b1,cond_false,hhas,cond_false,s0,hv.1 _ _ hc40,YF _ _ _ _ hc40,Bool.not_false,cond_true,Vn _ _ _ _ hc40,P3]
  | some r1 =>
  rw[YG]at s0
  simp only at s0
  have hr1:=rG he1 YG
  have hlr:=xu YG
  have hdr1:T.drop (p+1+1)=r1:=by
   cases ts with
   | nil=>cases YG
   | cons u us =>
    simp only[gi]at YG
    split at YG
    ·cases YG; exact (zB h2 (Ty.bU .token)).2.1
    ·cases YG
  have h5:=hv.2 (p+1+1) (by rw[hdr1]; exact hr1)
  rw[hdr1]at h5
  simp only
  cases hf:f r1 with
  | error q =>
   rw[hf]at h5
   obtain ⟨⟨g1,g2⟩,v,p',g3,g4⟩:=h5
   refine ⟨⟨g1,g2⟩,p',is.length+1,ns ++ [t.text],is ++ [v],g3,fun e0 => ?_⟩
   rw[e1,b1,cond_false,hhas,cond_false,s0,g4,YF _ _ _ _ g2,Bool.not_false,cond_true,Vn _ _ _ _ g2,P3]
  | ok q =>
   obtain ⟨v,Ip⟩:=q
   rw[hf]at h5
   obtain ⟨g1,p',g3,g4⟩:=h5
   have hlen:=hfl _ _ hf
   simp only at g1 g3 g4 hlen ⊢
   simp only[List.length_cons]at hF hm his WG
   have ju:T.drop p' ≠ []:=by rw[g3]; exact g1.ne
   have s1:=fun k:Bool→List Token→Int→Int→Option R=>Vl [44] (p:=p') (by omega) ju k
   have s2:=fun k:List Token→Int→Int→Option R=>Vm [125] (p:=p') (by omega) ju k
   rw[g3]at s1 s2
   cases hs:gi [125] Ip with
   | some r =>
    have Vo:=Xc (b := [44]) (by decide) hs
    rw[Vo]at s1
    rw[hs]at s2
    simp only at s1 s2
    have SF:T.drop (p'+1)=r:=by
     cases Ip with
     | nil=>cases hs
     | cons t u =>
      simp only[gi]at hs
      split at hs
      ·cases hs; exact (zB g3 (Ty.bU .token)).2.1
      ·cases hs
    refine ⟨rG g1 hs,p'+1,is.length+1,SF,fun e0 => ?_⟩
    rw[e1,b1,cond_false,hhas,cond_false,s0,g4,s1,Bool.not_false,cond_true,s2,P3]
   | none =>
    simp only
    cases Vo:gi [44] Ip with
    | none =>
     rw[Vo]at s1
     rw[hs]at s2
     simp only at s1 s2
     refine ⟨⟨g1,by show (_:Int)≠0; simp⟩,p',is.length+1,ns ++ [t.text],is ++ [v],g3,fun e0 => ?_⟩
     rw[e1,b1,cond_false,hhas,cond_false,s0,g4,s1,Bool.not_false,cond_true,s2,P3]
    | some r =>
     rw[Vo]at s1
     simp only at s1
     have hl3:=xu Vo
     have SF:T.drop (p'+1)=r:=by
      cases Ip with
      | nil=>cases Vo
      | cons t u =>
       simp only[gi]at Vo
       split at Vo
       ·cases Vo; exact (zB g3 (Ty.bU .token)).2.1
       ·cases Vo
     have hih:=ih m (ns ++ [t.text]) (is ++ [v]) (p'+1) (is.length+1) (by rw[SF]; omega) (by rw[SF]; omega) (by rw[SF]; exact rG g1 Vo) (by rw[SF]; simp; omega) (by rw[SF]; simp; omega)
     rw[SF]at hih
     have e3:∀e0,ax gX (F+1+1) d false T (p:Int) 0 c1 c2 c3 c4 c5 c6 c7 c8 ns n is e0=ax gX (F+1) d false T ((p'+1:Nat):Int) 0 c1 c2 c3 c4 c5 c6 c7 c8 (ns ++ [t.text]) (is.length+1) (is ++ [v]) e0:=fun e0=>by
      rw[e1,b1,cond_false,hhas,cond_false,s0,g4,s1,Bool.not_true,cond_false]
     simp only[e3]
     exact hih
end
theorem rvalue_ok {R:Type} (T:List Token) (hT:T.length≤100000000) (hk:∀t∈T,kindOk t):∀(n:Nat) (d:Int),0≤d→d≤17→17 - d<n→HvalR (R:=R) (br n) (tQ n d) d T:=by
  intro n
  induction n with
  | zero=>intro d h0 h1 h2; omega
  | succ n ih =>
    intro d h0 h1 h2
    have e0:∀(p c:Int) (k:Json→List Token→Int→Int→Option R),br (n+1) d T p c k=kA aq (az (br n)) (ax (br n)) d T p c k:=fun _ _ _=>rfl
    refine ⟨fun p c hc k => ?_,fun p he => ?_⟩
    · rw[e0]
      unfold kA
      have:(c != 0)=true:=by simpa using hc
      rw[this]
      rfl
    cases hdp:T.drop p with
    | nil=>exact (he.ne hdp).elim
    | cons t r =>
    rw[hdp]at he
    obtain ⟨g1,g2,g3⟩:=zB hdp (Ty.bU .token)
    have hm:t∈T:=by
      have:t∈T.drop p:=by rw[hdp]; simp
      exact List.mem_of_mem_drop this
    obtain ⟨hkd,V6⟩:=hk t hm
    have cp:(decide ((0:Int)≤(p:Int))&&decide ((p:Int)<(T.length:Int)))=true:=by simp; omega
    have hwp:IntKind.i64.wrap ((p:Int)+1)=((p+1:Nat):Int):=by rw[bw (by omega) (by omega)]; omega
    have hdl:∀z:Json,(T.drop p).length=r.length+1:=fun _=>by rw[hdp]; rfl
    -- what comes behind the first tests
    let J:(Json→List Token→Int→Int→Option R)→Option R:=fun k=>bif decide (d>16)then k SU T (p:Int) 41 else (bif t.kind==2 then k ⟨5,⟨0,0⟩,t.text, [], []⟩ T ((p+1:Nat):Int) 0 else (bif t.kind==3 then k ⟨4,⟨t.num.aF,t.num.exp⟩, [], [], []⟩ T ((p+1:Nat):Int) 0 else (bif t.kind==4 then k ⟨sf .str (.int .i64) t.text Re,⟨0,0⟩, [], [], []⟩ T ((p+1:Nat):Int) 0 else
      (bif t.text==([91]:ah)then aq [93] T ((p+1:Nat):Int) 0 (fun y7 y8 y9 rI=>az (br n) (Int.natAbs d+List.length y8+Int.natAbs y9+Int.natAbs rI+Int.natAbs 0+Int.natAbs 0+Int.natAbs 0+List.length ([]:ah)+Int.natAbs 6+Int.natAbs 0+Int.natAbs 0+List.length ([]:ah)+List.length ([]:List Json)+64) d y7 y8 y9 rI 0 0 0 [] 6 0 0 [] 0 [] (fun X7 YK YL y41 y42 y43 y44 y45 y46 y47 y48 y49 y50=>k ⟨y45,⟨y46,y47⟩,y48, [],y50⟩ X7 YK YL))
       else aq [125] T ((p+1:Nat):Int) 0 (fun ZZ VV WT WU=>ax (br n) (Int.natAbs d+List.length VV+Int.natAbs WT+Int.natAbs WU+Int.natAbs 0+Int.natAbs 0+Int.natAbs 0+List.length ([]:ah)+Int.natAbs 7+Int.natAbs 0+Int.natAbs 0+List.length ([]:ah)+List.length ([]:List ah)+List.length ([]:List Json)+64) d ZZ VV WT WU 0 0 0 [] 7 0 0 [] [] 0 [] (fun y87 y88 y89 y90 y91 y92 y93 y94 y95 y96 y97 y98 y99 y100=>k ⟨y94,⟨y95,y96⟩,y97,y98,y100⟩ y87 y88 y89))))))
    have e1:∀k:Json→List Token→Int→Int→Option R,br (n+1) d T (p:Int) 0 k=bif pE t then J k else k SU T (p:Int) 40:=fun k=>by
      rw[e0]
      unfold kA
      rw[show ((0:Int) != 0)=false from rfl,cond_false,g1,aS cp,hwp]
      show (bif (t.kind==1)then (bif (t.text==([91]:ah))then (bif (t.kind==5)then k SU T (p:Int) 40 else (bif (t.kind==1)then (bif (!true)then k SU T (p:Int) 40 else J k)else J k))else (bif (t.kind==5)then k SU T (p:Int) 40 else (bif (t.kind==1)then (bif (!(t.text==([123]:ah)))then k SU T (p:Int) 40 else J k)else J k)))else (bif (t.kind==5)then k SU T (p:Int) 40 else (bif (t.kind==1)then (bif (!false)then k SU T (p:Int) 40 else J k)else J k)))=_
      generalize J k=w
      unfold pE Cp
      rcases hkd with h|h|h|h|h <;> rw[h]
      · cases t.text==([91]:ah) <;> cases t.text==([123]:ah) <;> rfl
      · rfl
      · rfl
      · rfl
      · rfl
    simp only[tQ]
    cases Vs:pE t with
    | false =>
      rw[if_pos rfl]
      exact ⟨⟨he,by show (_:Int)≠0; simp⟩,SU,p,hdp,fun k=>by rw[e1,Vs]; rfl⟩
    | true =>
      rw[if_neg (by simp)]
      have e2:∀k,br (n+1) d T (p:Int) 0 k=J k:=fun k=>by rw[e1,Vs]; rfl
      by_cases hd:d>16
      · rw[if_pos hd]
        have b1:decide (d>16)=true:=by simpa using hd
        exact ⟨⟨he,by show (_:Int)≠0; simp⟩,SU,p,hdp,fun k=>by rw[e2]; show (bif decide (d>16)then _ else _)=_; rw[b1]; rfl⟩
      rw[if_neg hd]
      have b1:decide (d>16)=false:=by simpa using hd
      have hk5:t.kind≠5:=by
        intro h5
        simp[pE,h5]at Vs
      have YN:=he.tail hk5
      have hih:=ih (d+1) (by omega) (by omega) (by omega)
      have hfl:∀ts q,tQ n (d+1) ts = .ok q→q.2.length<ts.length:=fun ts q=>U3 n (d+1) ts q
      have hne1:T.drop (p+1) ≠ []:=by rw[g2]; exact YN.ne
      by_cases WC:t.kind=1∧Cp t.text=true
      · rw[if_pos WC]
        obtain ⟨k1,k2⟩:=WC
        have hlr:r.length≤T.length:=by
          have:=congrArg List.length g2
          rw[List.length_drop]at this
          omega
        cases FJ:t.text==([123]:ah)with
        | true =>
          have h91:(t.text==([91]:ah))=false:=by
            rw[beq_iff_eq]at FJ
            rw[FJ]; rfl
          have e3:∀k,br (n+1) d T (p:Int) 0 k=aq [125] T ((p+1:Nat):Int) 0 (fun ZZ VV WT WU=>ax (br n) (Int.natAbs d+List.length VV+Int.natAbs WT+Int.natAbs WU+Int.natAbs 0+Int.natAbs 0+Int.natAbs 0+List.length ([]:ah)+Int.natAbs 7+Int.natAbs 0+Int.natAbs 0+List.length ([]:ah)+List.length ([]:List ah)+List.length ([]:List Json)+64) d ZZ VV WT WU 0 0 0 [] 7 0 0 [] [] 0 [] (fun y87 y88 y89 y90 y91 y92 y93 y94 y95 y96 y97 y98 y99 y100=>k ⟨y94,⟨y95,y96⟩,y97,y98,y100⟩ y87 y88 y89)):=fun k=>by
            rw[e2]
            show (bif decide (d>16)then _ else (bif t.kind==2 then _ else (bif t.kind==3 then _ else (bif t.kind==4 then _ else (bif t.text==([91]:ah)then _ else _)))))=_
            rw[b1,k1,h91]
            rfl
          simp only[if_true]
          have s0:=fun k:Bool→List Token→Int→Int→Option R=>Vl [125] (p:=p+1) (by omega) hne1 k
          rw[g2]at s0
          cases hs:gi [125] r with
          | some r' =>
            rw[hs]at s0
            simp only at s0 ⊢
            have SF:T.drop (p+1+1)=r':=by
              cases r with
              | nil=>cases hs
              | cons u us =>
                simp only[gi]at hs
                split at hs
                · cases hs; exact (zB g2 (Ty.bU .token)).2.1
                · cases hs
            refine ⟨rG YN hs,p+1+1,SF,fun k => ?_⟩
            rw[e3,s0]
            rfl
          | none =>
            rw[hs]at s0
            simp only at s0 ⊢
            have hl:=robj_loop (br n) (tQ n (d+1)) hfl d ⟨h0,by omega⟩ T hT hih 0 0 0 [] 7 0 0 [] (Int.natAbs d+List.length T+Int.natAbs ((p+1:Nat):Int)+Int.natAbs 0+Int.natAbs 0+Int.natAbs 0+Int.natAbs 0+List.length ([]:ah)+Int.natAbs 7+Int.natAbs 0+Int.natAbs 0+List.length ([]:ah)+List.length ([]:List ah)+List.length ([]:List Json)+64) (r.length+1) [] [] (p+1) 0 (by rw[g2]; omega) (by rw[g2]; omega) (by rw[g2]; exact YN) (by rw[g2]; simp; omega) (by rw[g2]; simp; omega)
            rw[g2]at hl
            cases hq:tP (tQ n (d+1)) [125] true (r.length+1) [] [] r with
            | error b =>
              rw[hq]at hl
              obtain ⟨a1,p',n',ns',is',a2,a3⟩:=hl
              refine ⟨a1,⟨7,⟨0,0⟩, [],ns',is'⟩,p',a2,fun k => ?_⟩
              rw[e3,s0,a3]
            | ok q =>
              rw[hq]at hl
              obtain ⟨a1,p',n',a2,a3⟩:=hl
              refine ⟨a1,p',a2,fun k => ?_⟩
              rw[e3,s0,a3]
        | false =>
          have h91:(t.text==([91]:ah))=true:=by
            unfold Cp at k2
            rw[FJ,Bool.or_false]at k2
            exact k2
          have e3:∀k,br (n+1) d T (p:Int) 0 k=aq [93] T ((p+1:Nat):Int) 0 (fun y7 y8 y9 rI=>az (br n) (Int.natAbs d+List.length y8+Int.natAbs y9+Int.natAbs rI+Int.natAbs 0+Int.natAbs 0+Int.natAbs 0+List.length ([]:ah)+Int.natAbs 6+Int.natAbs 0+Int.natAbs 0+List.length ([]:ah)+List.length ([]:List Json)+64) d y7 y8 y9 rI 0 0 0 [] 6 0 0 [] 0 [] (fun X7 YK YL y41 y42 y43 y44 y45 y46 y47 y48 y49 y50=>k ⟨y45,⟨y46,y47⟩,y48, [],y50⟩ X7 YK YL)):=fun k=>by
            rw[e2]
            show (bif decide (d>16)then _ else (bif t.kind==2 then _ else (bif t.kind==3 then _ else (bif t.kind==4 then _ else (bif t.text==([91]:ah)then _ else _)))))=_
            rw[b1,k1,h91]
            rfl
          simp only[Bool.false_eq_true,if_false]
          have s0:=fun k:Bool→List Token→Int→Int→Option R=>Vl [93] (p:=p+1) (by omega) hne1 k
          rw[g2]at s0
          cases hs:gi [93] r with
          | some r' =>
            rw[hs]at s0
            simp only at s0 ⊢
            have SF:T.drop (p+1+1)=r':=by
              cases r with
              | nil=>cases hs
              | cons u us =>
                simp only[gi]at hs
                split at hs
                · cases hs; exact (zB g2 (Ty.bU .token)).2.1
                · cases hs
            refine ⟨rG YN hs,p+1+1,SF,fun k => ?_⟩
            rw[e3,s0]
            rfl
          | none =>
            rw[hs]at s0
            simp only at s0 ⊢
            have hl:=rarr_loop (br n) (tQ n (d+1)) hfl d ⟨h0,by omega⟩ T hT hih 0 0 0 [] 6 0 0 [] (Int.natAbs d+List.length T+Int.natAbs ((p+1:Nat):Int)+Int.natAbs 0+Int.natAbs 0+Int.natAbs 0+Int.natAbs 0+List.length ([]:ah)+Int.natAbs 6+Int.natAbs 0+Int.natAbs 0+List.length ([]:ah)+List.length ([]:List Json)+64) (r.length+1) [] (p+1) 0 (by rw[g2]; omega) (by rw[g2]; omega) (by rw[g2]; exact YN) (by rw[g2]; simp; omega)
            rw[g2]at hl
            cases hq:tP (tQ n (d+1)) [93] false (r.length+1) [] [] r with
            | error b =>
              rw[hq]at hl
              obtain ⟨a1,p',n',is',a2,a3⟩:=hl
              refine ⟨a1,⟨6,⟨0,0⟩, [], [],is'⟩,p',a2,fun k => ?_⟩
              rw[e3,s0,a3]
            | ok q =>
              rw[hq]at hl
              obtain ⟨a1,a0,p',n',a2,a3⟩:=hl
              refine ⟨a1,p',a2,fun k => ?_⟩
              rw[e3,s0,a3,a0]
      · rw[if_neg WC]
        have hk1:t.kind≠1:=by
          intro h1'
          apply WC
          refine ⟨h1',?_⟩
          simpa [pE,h1']using Vs
        rcases hkd with h|h|h|h|h
        · exact (hk1 h).elim
        · rw[if_neg (by rw[h]; simp),if_neg (by rw[h]; simp)]
          refine ⟨YN,p+1,g2,fun k => ?_⟩
          rw[e2]
          show (bif decide (d>16)then _ else (bif t.kind==2 then _ else _))=_
          rw[b1,h]
          rfl
        · rw[if_neg (by rw[h]; simp),if_pos h]
          refine ⟨YN,p+1,g2,fun k => ?_⟩
          rw[e2]
          show (bif decide (d>16)then _ else (bif t.kind==2 then _ else (bif t.kind==3 then _ else _)))=_
          rw[b1,h]
          rfl
        · rw[if_pos ⟨h,V6 h⟩]
          refine ⟨YN,p+1,g2,fun k => ?_⟩
          rw[e2]
          show (bif decide (d>16)then _ else (bif t.kind==2 then _ else (bif t.kind==3 then _ else (bif t.kind==4 then _ else _))))=_
          rw[b1,h]
          rfl
        · exact (hk5 h).elim
theorem tokS_kind {s r:ah} {t:Token} (h:tokS s=some (t,r)):t.kind=1∨t.kind=2∨t.kind=3∨t.kind=4∨t.kind=5:=by
  cases s with
  | nil=>cases h
  | cons c u =>
    simp only[tokS]at h
    split at h
    · split at h
      · simp only[Option.some.injEq,Prod.mk.injEq]at h; rw[←h.1]; simp
      · cases h
    · split at h
      · split at h
        · simp only[Option.some.injEq,Prod.mk.injEq]at h; rw[←h.1]; simp
        · cases h
      · split at h
        · simp only[Option.some.injEq,Prod.mk.injEq]at h; rw[←h.1]; simp
        · split at h
          · simp only[Option.some.injEq,Prod.mk.injEq]at h; rw[←h.1]; simp
          · cases h
theorem RX:∀(n p:Nat) (s:ah) (out:List Token),(∀t∈out,kindOk t)→∀t∈(r4 n p s out).1,kindOk t
  | 0,_,_,_,_=>by intro t ht; cases ht
  | n+1,p,s,out,ho=>by
    simp only[r4]
    split
    · intro t ht
      rcases List.mem_append.1 ht with ht|ht
      · exact ho t ht
      · obtain rfl:=List.mem_singleton.1 ht
        exact ⟨by simp,fun h=>by cases h⟩
    · split
      · intro t ht; cases ht
      · rename_i t r hr
        refine RX n _ r _ fun x hx => ?_
        rcases List.mem_append.1 hx with hx|hx
        · exact ho x hx
        · obtain rfl:=List.mem_singleton.1 hx
          refine ⟨?_,(tokS_ok hr).1.2.2⟩
          show t.kind=1∨t.kind=2∨t.kind=3∨t.kind=4∨t.kind=5
          exact tokS_kind hr
theorem scanS_kinds (s:ah):∀t∈(nH s).1,kindOk t:=by
  unfold nH
  split
  · intro t ht; cases ht
  · exact RX _ _ _ _ (by intro t ht; cases ht)
theorem rparse_ok {R:Type} (s:ah) (k:Json→Int→Int→Option R):gg s k=k (vy s).1 (vy s).2.1 (vy s).2.2:=by
  have e0:gg s k=DA cP mR s k:=rfl
  rw[e0]
  unfold DA vy
  rw[refScan_ok]
  by_cases h:(nH s).2.1=0
  rotate_left
  · have e1:((nH s).2.1 != 0)=true:=by simpa using h
    rw[if_pos h,e1]
    rfl
  have e1:((nH s).2.1 != 0)=false:=by simpa using h
  rw[if_neg (by simpa using h),e1,cond_false]
  have hE:=Rj s h
  have hL:=Ri s
  have hv:=(rvalue_ok (R:=R) (nH s).1 (by omega) (scanS_kinds s) 40 1 (by omega) (by omega) (by omega)).2 0 (by rw[List.drop_zero]; exact hE)
  rw[List.drop_zero]at hv
  generalize (nH s).1=T at hE hL hv
  have e2:∀q,cP (R:=R) 1 T 0 0 q=br 40 1 T ((0:Nat):Int) 0 q:=fun q=>rfl
  rw[e2]
  cases hq:tQ 40 1 T with
  | error b =>
    rw[hq]at hv
    obtain ⟨⟨g1,g2⟩,v,p',g3,g4⟩:=hv
    rw[g4]
    obtain ⟨c,r⟩:=b
    cases r with
    | nil=>exact (g1.ne rfl).elim
    | cons t r =>
      obtain ⟨a1,_,a3⟩:=zB g3 (Ty.bU .token)
      have cp:(decide ((0:Int)≤(p':Int))&&decide ((p':Int)<(T.length:Int)))=true:=by simp; omega
      have e3:(c != 0)=true:=by simpa using g2
      have e4:(c==0)=false:=by simpa using g2
      simp only[e3,e4,cond_true,cond_false,a1,aS cp]
      rfl
  | ok q =>
    rw[hq]at hv
    obtain ⟨g1,p',g3,g4⟩:=hv
    rw[g4]
    obtain ⟨v,r⟩:=q
    cases r with
    | nil=>exact (g1.ne rfl).elim
    | cons t r =>
      obtain ⟨a1,_,a3⟩:=zB g3 (Ty.bU .token)
      have cp:(decide ((0:Int)≤(p':Int))&&decide ((p':Int)<(T.length:Int)))=true:=by simp; omega
      have e3:((0:Int) != 0)=false:=rfl
      have e4:((0:Int)==0)=true:=rfl
      have e5:(t::r).getD 0 (⟨0, [],⟨0,0⟩,0⟩:Token)=t:=rfl
      simp only[e3,e4,cond_true,cond_false,a1,aS cp,e5,Json.eta]
      by_cases hk:t.kind=5
      · have b1:(t.kind != 5)=false:=by simpa using hk
        rw[b1,if_neg (by simpa using hk)]
        rfl
      · have b1:(t.kind != 5)=true:=by simpa using hk
        rw[b1,if_pos hk]
        rfl
mutual
def i64J:Json→Prop
 | ⟨k,n,t,ns,is⟩=>G3 n.aF∧G3 n.exp∧i64L is
def i64L:List Json→Prop
 | []=>True
 | x::l=>i64J x∧i64L l
end
theorem same4_names {R:Type} (a b:Json) (ha:a.names.length≤1099511627776) (hl:a.names.length=b.names.length) (e0:Bool→Json→Json→Option R) (e1:Json→Json→Option R):∀(n i:Nat),i≤a.names.length→a.names.length - i<n →
  b9 n (i:Int) a b e1 e0=bif decide (a.names.drop i=b.names.drop i)then e1 a b else e0 false a b:=by
 intro n
 induction n with
 | zero=>intro i _ h; omega
 | succ n ih =>
  intro i hi hn
  show xk (fun x1 x2 x3=>b9 n x1 x2 x3 e1 e0) _ _ _ e1 e0=_
  unfold xk
  simp only[Json.eta]
  by_cases h:i<a.names.length
  ·have h1:decide ((i:Int)<(a.names.length:Int))=true:=by simp; omega
   have h2:(decide ((0:Int)≤(i:Int))&&true)=true:=by simp
   have h2':(decide ((0:Int)≤(i:Int))&&decide ((i:Int)<b.names.length))=true:=by simp; omega
   have hw:IntKind.i64.wrap ((i:Int)+1)=((i+1:Nat):Int):=by rw[bw (by omega) (by omega)]; omega
   have hg:a.names.getD (i:Int).toNat (Ty.bU .str)=a.names[i]:=getD_at h _
   have hg':b.names.getD (i:Int).toNat (Ty.bU .str)=b.names[i]:=getD_at (by omega) _
   have e1':=ih (i+1) (by omega) (by omega)
   rw[h1,cond_true,aS h2,aS h2',hg,hg',hw]
   simp only[e1']
   rw[List.drop_eq_getElem_cons h,List.drop_eq_getElem_cons (show i<b.names.length by omega)]
   by_cases hq:a.names[i]=b.names[i]
   ·have hqt:(a.names[i]==b.names[i])=true:=by simpa using hq
    simp only[hqt,Bool.not_true,cond_false,List.cons.injEq]
    simp only[hq,true_and]
   ·have hqf:(a.names[i]==b.names[i])=false:=by simpa using hq
    simp only[hqf,Bool.not_false,cond_true,List.cons.injEq,hq,false_and,decide_false,cond_false]
  ·have h1:decide ((i:Int)<(a.names.length:Int))=false:=by simp; omega
   rw[h1,cond_false,List.drop_eq_nil_of_le (by omega),List.drop_eq_nil_of_le (by omega)]
   simp
theorem RY {R:Type} (f:cU R) (a b:Json) (ha:a.items.length≤1099511627776) (hl:a.items.length=b.items.length) (hf:∀x∈a.items,∀y∈b.items,∃r:Bool,(r=true↔x=y)∧∀k,f x y k=k r)
  (e0:Bool→Option R) (e1:Option R):∀(n i:Nat),i≤a.items.length→a.items.length - i<n →
  ∃r:Bool,(r=true↔a.items.drop i=b.items.drop i)∧bR f n (i:Int) a b e1 e0=bif r then e1 else e0 false:=by
 intro n
 induction n with
 | zero=>intro i _ h; omega
 | succ n ih =>
  intro i hi hn
  by_cases h:i<a.items.length
  ·have h1:decide ((i:Int)<(a.items.length:Int))=true:=by simp; omega
   have h2:(decide ((0:Int)≤(i:Int))&&true)=true:=by simp
   have h2':(decide ((0:Int)≤(i:Int))&&decide ((i:Int)<b.items.length))=true:=by simp; omega
   have hw:IntKind.i64.wrap ((i:Int)+1)=((i+1:Nat):Int):=by rw[bw (by omega) (by omega)]; omega
   have hg:a.items.getD (i:Int).toNat (Ty.bU .json)=a.items[i]:=getD_at h _
   have hg':b.items.getD (i:Int).toNat (Ty.bU .json)=b.items[i]:=getD_at (by omega) _
   obtain ⟨r,hr,hk⟩:=hf a.items[i] (List.getElem_mem h) b.items[i] (List.getElem_mem (by omega))
   obtain ⟨r2,hr2,KX⟩:=ih (i+1) (by omega) (by omega)
   refine ⟨r&&r2,?_,?_⟩
   ·rw[List.drop_eq_getElem_cons h,List.drop_eq_getElem_cons (show i<b.items.length by omega)]
    simp only[Bool.and_eq_true,hr,hr2,List.cons.injEq]
   ·show pX f (fun x1 x2 x3=>bR f n x1 x2 x3 e1 e0) _ _ _ e1 e0=_
    unfold pX
    simp only[Json.eta]
    rw[h1,cond_true,aS h2,aS h2',hg,hg',hk,hw,KX]
    cases r <;> cases r2 <;> rfl
  ·refine ⟨true,?_,?_⟩
   ·rw[List.drop_eq_nil_of_le (by omega),List.drop_eq_nil_of_le (by omega)]
    simp
   ·show pX f (fun x1 x2 x3=>bR f n x1 x2 x3 e1 e0) _ _ _ e1 e0=_
    unfold pX
    have h1:decide ((i:Int)<(a.items.length:Int))=false:=by simp; omega
    rw[h1]
    rfl
theorem same4_N {R:Type}:∀(n:Nat) (a b:Json),SG a=true→a.depth<n→∃r:Bool,(r=true↔a=b)∧∀k:Bool→Option R,gd n a b k=k r:=by
 intro n
 induction n with
 | zero=>intro a b _ h; omega
 | succ n ih =>
  intro a b ha0 hd
  obtain ⟨han,hai,haL,_⟩:=L0.1 ha0
  have no:(∀k:Bool→Option R,gd (n+1) a b k=k false)→a≠b→∃r:Bool,(r=true↔a=b)∧∀k:Bool→Option R,gd (n+1) a b k=k r :=
   fun h1 h2=>⟨false,by simp[h2],h1⟩
  have he:∀k:Bool→Option R,gd (n+1) a b k=pq b9 (bR (gd n)) a b k:=fun k=>rfl
  by_cases h1:a.kind=b.kind
  ·by_cases h2:a.num=b.num
   ·by_cases h3:a.text=b.text
    ·by_cases h4:a.names.length=b.names.length
     ·by_cases h5:a.items.length=b.items.length
      ·obtain ⟨r,hr,hk⟩:∃r:Bool,(r=true↔a.items.drop 0=b.items.drop 0)∧∀e0 e1,bR (R:=R) (gd n) (Int.natAbs 0+Json.fu a+Json.fu b+64) ((0:Nat):Int) a b e1 e0=bif r then e1 else e0 false:=by
        have hf:∀x∈a.items,∀y∈b.items,∃r:Bool,(r=true↔x=y)∧∀k:Bool→Option R,gd n x y k=k r:=fun x hx y hy=>ih x y (lenL_mem haL hx) (by have:=jdepth_item hx; omega)
        have hfu:a.items.length - 0<Int.natAbs 0+Json.fu a+Json.fu b+64:=by unfold Json.fu; omega
        by_cases hq:a.items.drop 0=b.items.drop 0
        ·refine ⟨true,by simp[hq],fun e0 e1 => ?_⟩
         obtain ⟨r,hr,hk⟩:=RY (gd n) a b hai h5 hf e0 e1 _ 0 (by omega) hfu
         rw[hr.2 hq]at hk
         exact hk
        ·refine ⟨false,by simpa using hq,fun e0 e1 => ?_⟩
         obtain ⟨r,hr,hk⟩:=RY (gd n) a b hai h5 hf e0 e1 _ 0 (by omega) hfu
         have:r=false:=by
          cases r with
          | false=>rfl
          | true=>exact (hq (hr.1 rfl)).elim
         rw[this]at hk
         exact hk
       refine ⟨decide (a.names.drop 0=b.names.drop 0)&&r,?_,fun k => ?_⟩
       ·simp only[Bool.and_eq_true,decide_eq_true_eq,hr,List.drop_zero]
        constructor
        ·rintro ⟨q1,q2⟩
         cases a; cases b
         simp_all
        ·rintro rfl; exact ⟨rfl,rfl⟩
       ·rw[he]
        unfold pq
        simp only[Json.eta]
        have c1:(a.kind != b.kind)=false:=by simp[h1]
        have c2:(!(a.num.aF==b.num.aF&&(a.num.exp==b.num.exp&&true)))=false:=by simp[h2]
        have c3:(!(a.text==b.text))=false:=by simp[h3]
        have c4:((a.names.length:Int) != (b.names.length:Int))=false:=by simp[h4]
        have c5:((a.items.length:Int) != (b.items.length:Int))=false:=by simp[h5]
        rw[c1,c2,c3,c4,c5]
        simp only[cond_false]
        refine (same4_names a b han h4 _ _ _ 0 (by omega) (by unfold Json.fu; omega)).trans ?_
        have:=hk (fun DM=>k DM) (k true)
        rw[show ((0:Nat):Int)=0 from rfl]at this
        rw[this]
        cases decide (a.names.drop 0=b.names.drop 0) <;> cases r <;> rfl
      ·refine no (fun k => ?_) (fun e=>h5 (by rw[e]))
       rw[he]
       unfold pq
       have c1:(a.kind != b.kind)=false:=by simp[h1]
       have c2:(!(a.num.aF==b.num.aF&&(a.num.exp==b.num.exp&&true)))=false:=by simp[h2]
       have c3:(!(a.text==b.text))=false:=by simp[h3]
       have c4:((a.names.length:Int) != (b.names.length:Int))=false:=by simp[h4]
       have c5:((a.items.length:Int) != (b.items.length:Int))=true:=by simp; omega
       rw[c1,c2,c3,c4,c5]
       rfl
     ·refine no (fun k => ?_) (fun e=>h4 (by rw[e]))
      rw[he]
      unfold pq
      have c1:(a.kind != b.kind)=false:=by simp[h1]
      have c2:(!(a.num.aF==b.num.aF&&(a.num.exp==b.num.exp&&true)))=false:=by simp[h2]
      have c3:(!(a.text==b.text))=false:=by simp[h3]
      have c4:((a.names.length:Int) != (b.names.length:Int))=true:=by simp; omega
      rw[c1,c2,c3,c4]
      rfl
    ·refine no (fun k => ?_) (fun e=>h3 (by rw[e]))
     rw[he]
     unfold pq
     have c1:(a.kind != b.kind)=false:=by simp[h1]
     have c2:(!(a.num.aF==b.num.aF&&(a.num.exp==b.num.exp&&true)))=false:=by simp[h2]
     have c3:(!(a.text==b.text))=true:=by simp[h3]
     rw[c1,c2,c3]
     rfl
   ·refine no (fun k => ?_) (fun e=>h2 (by rw[e]))
    rw[he]
    unfold pq
    have c1:(a.kind != b.kind)=false:=by simp[h1]
    have c2:(!(a.num.aF==b.num.aF&&(a.num.exp==b.num.exp&&true)))=true:=by
     have:¬(a.num.aF=b.num.aF∧a.num.exp=b.num.exp):=fun ⟨q1,q2⟩=>h2 (by cases hq:a.num; cases hp:b.num; simp_all)
     simp only[Bool.and_true,Bool.not_eq_true',Bool.and_eq_false_imp,beq_iff_eq,beq_eq_false_iff_ne]
     exact fun q1 q2=>this ⟨q1,q2⟩
    rw[c1,c2]
    rfl
  ·refine no (fun k => ?_) (fun e=>h1 (by rw[e]))
   rw[he]
   unfold pq
   have c1:(a.kind != b.kind)=true:=by simp[h1]
   rw[c1]
   rfl
theorem same4 {R:Type} (a b:Json) (ha:SG a=true):∃r:Bool,(r=true↔a=b)∧∀k:Bool→Option R,gM a b k=k r:=same4_N (a.depth+2) a b ha (by omega)
theorem same4_refl {R:Type} (a:Json) (ha:SG a=true) (k:Bool→Option R):gM a a k=k true:=by
 obtain ⟨r,hr,hk⟩:=same4 (R:=R) a a ha
 rw[hk,hr.2 rfl]
abbrev HE:List ah := [([123]:ah),([125]:ah),([91]:ah),([93]:ah),([44]:ah),([58]:ah),([34,97,34]:ah),([34,98,34]:ah),([49]:ah),([45,50,46,53]:ah),([116,114,117,101]:ah),([110,117,108,108]:ah),([102,97,108,115,101]:ah),([34,34]:ah),([120]:ah)]
theorem words_short (n:Nat) (h:n<15):(HE.getD n (Ty.bU .str)).length≤5:=by
 have all:∀n:Fin 15,(HE.getD n.val []).length≤5:=by decide +kernel
 exact all ⟨n,h⟩
theorem wordsj_loop {R:Type} (l:List Int) (hl:∀c∈l,G3 c) (hn:l.length≤1048576) (ok:Bool):∀(F i:Nat) (s:ah),i≤l.length→l.length - i<F→s.length≤6*i→∃s':ah,∀e0:Bool→ah→Option R,bK F l ok HE s (i:Int) e0=e0 ok s':=by
 intro F
 induction F with
 | zero=>intro i s _ h; omega
 | succ F ih =>
  intro i s hi hF hs
  have e1:∀e0:Bool→ah→Option R,bK (F+1) l ok HE s (i:Int) e0=kP fY (fun hY hZ iB ql E3=>bK F hY hZ iB ql E3 e0) l ok HE s (i:Int) e0:=fun e0=>rfl
  by_cases h:i<l.length
  rotate_left
  ·refine ⟨s,fun e0 => ?_⟩
   rw[e1]
   unfold kP
   have h1:decide ((i:Int)<(l.length:Int))=false:=by simp; omega
   rw[h1]
   rfl
  have h1:decide ((i:Int)<(l.length:Int))=true:=by simp; omega
  by_cases h60:i<60
  rotate_left
  ·refine ⟨s,fun e0 => ?_⟩
   rw[e1]
   unfold kP
   have h2:decide ((i:Int)<60)=false:=by simp; omega
   rw[h1,h2]
   rfl
  have h2:decide ((i:Int)<60)=true:=by simp; omega
  have hw:IntKind.i64.wrap ((i:Int)+1)=((i+1:Nat):Int):=by rw[bw (by omega) (by omega)]; omega
  have hg:l.getD (i:Int).toNat (Ty.bU (.int .i64))=l[i]:=getD_at h _
  obtain ⟨y,y0,y1,hy⟩:=pick04 (R:=R) l[i] 15 (hl _ (List.getElem_mem h)) (by omega) (by omega)
  have hsh:=words_short y.toNat (by omega)
  have hwl:(HE.length:Int)=15:=rfl
  generalize hx:HE.getD y.toNat (Ty.bU .str)=w at hsh
  obtain ⟨s',hs'⟩:=ih (i+1) ((s++w)++([32]:ah)) (by omega) (by omega) (by simp only[List.length_append,List.length_cons,List.length_nil]; omega)
  refine ⟨s',fun e0 => ?_⟩
  rw[e1]
  unfold kP
  rw[h1,h2,cond_true,cond_true,aS (by simp),hg,hwl,hy,aS (by rw[aB (by omega),aB (by omega)]; rfl),hx,aS (aB (by omega)),aS (aB (by simp only[List.length_append]; omega)),hw]
  exact hs' e0
theorem parse_len (s:ah):SG (vy s).1=true:=by
 by_cases h:(vy s).2.1=0
 ·exact (parseJ_ok s h).2.1
 ·rw[parseJ_none s h]; rfl
theorem Vp {R:Type} (l:List Int) (h:∃n,Wt n (.sl (.int .i64) l .no)∧n≤1048576) (k:Bool→Option R):vh l k=k true:=by
 have hli:(∀c∈l,G3 c)∧l.length≤1048576:=by
  obtain ⟨n,h,hn⟩:=h
  cases h with
  | sl p w=>exact ⟨YE l _ w,Nat.le_trans (Qf (T := .int .i64) l _ w (fun x n h=>by
    have h':SQ n [V.int .i64 x]:=h
    cases h' with|cons a b=>have:=wt_pos a; omega)) (by omega)⟩
 have e:vh l k=gJ (fun y2=>bK (List.length l+List.length HE+List.length ([]:ah)+Int.natAbs 0+64) l y2 HE [] ((0:Nat):Int) (fun rI rq=>eh rq (fun qV G8 KZ=>gg rq (fun DM HF Iv=>bif rI then (gM ⟨qV.kind,⟨qV.num.aF,qV.num.exp⟩,qV.text,qV.names,qV.items⟩ ⟨DM.kind,⟨DM.num.aF,DM.num.exp⟩,DM.text,DM.names,DM.items⟩ (fun Iu=>bif Iu then (bif (G8==HF)then (k (KZ==Iv))else (k false))else (k false)))else (k false))))):=rfl
 obtain ⟨s',hs'⟩:=wordsj_loop (R:=R) l hli.1 hli.2 true (List.length l+List.length HE+List.length ([]:ah)+Int.natAbs 0+64) 0 [] (by omega) (by omega) (by simp)
 rw[e,awake04,hs',jparse_ok,rparse_ok,cond_true]
 simp only[Json.eta]
 rw[same4_refl _ (parse_len s'),cond_true,beq_self_eq_true,cond_true,beq_self_eq_true]
theorem wt_strs:∀(l:List (Ty.den .str)) (m:Nat),SP m (l.map (Ty.cells .str))→l.length≤m∧∀t∈(l:List ah),t.length≤m
 | [],_,_=>⟨Nat.zero_le _,fun t h=>by cases h⟩
 | x::l,_, .cons h t=>by
  obtain ⟨h1,h2⟩:=wt_strs l _ t
  have h':SQ _ [V.str x]:=h
  cases h' with
  | cons a b =>
   cases a with
   | str hx =>
    have XT:List.length (x:ah)+1≤_:=hx
    refine ⟨by simp only[List.length_cons]; omega,fun u hu => ?_⟩
    rcases List.mem_cons.1 hu with hu|hu
    ·have:List.length u=List.length (x:ah):=congrArg List.length hu
     omega
    ·have:=h2 u hu; omega
def sumS:List ah→Nat
 | []=>0
 | t::l=>t.length+1+sumS l
theorem wt_sum:∀(l:List (Ty.den .str)) (m:Nat),SP m (l.map (Ty.cells .str))→sumS l≤m
 | [],_,_=>Nat.zero_le _
 | x::l,_, .cons h t=>by
  have h1:=wt_sum l _ t
  have h':SQ _ [V.str x]:=h
  cases h' with
  | cons a b =>
   cases a with
   | str hx =>
    have XT:List.length (x:ah)+1≤_:=hx
    show List.length (x:ah)+1+sumS l≤_
    omega
theorem prtA_any (d:dH):(Jx d).length≤60:=by
 cases h:fmB d with
 | true=>exact prtA_len (Mq.1 h)
 | false=>unfold Jx; rw[h]; simp
mutual
theorem wt_json:∀(v:Json) (n:Nat),n≤1048576→SQ n (Ty.cells .json v)→SG v=true∧i64J v∧(kH v).length+50≤100*n
 | ⟨k,⟨m,e⟩,t,ns,is⟩,n,hn,h=>by
  have hL:=wt_jsonL is
  have hO:=wt_jsonO is ns
  have h':SQ n [.int .i64 k, .int .i64 m, .int .i64 e, .str t, .sl .str ns .no, .sl .json is .no]:=h
  cases h' with
  | cons a1 h'=>cases h' with
   | cons a2 h'=>cases h' with
    | cons a3 h'=>cases h' with
     | cons a4 h'=>cases h' with
      | cons a5 h'=>cases h' with
       | cons a6 h' =>
        cases h'
        cases a1 with|int p1 k1 =>
        cases a2 with|int p2 k2 =>
        cases a3 with|int p3 k3 =>
        cases a4 with|str p4 =>
        cases a5 with|sl p5 w5 =>
        cases a6 with|sl p6 w6 =>
        obtain ⟨s1,s2⟩:=wt_strs ns _ w5
        have s3:=wt_sum ns _ w5
        have s1':List.length (α:=ah) ns≤_:=s1
        have s2':∀t∈ns,List.length t≤_:=s2
        obtain ⟨l1,l2,l3,l4⟩:=hL _ (by omega) w6
        have l5:=hO true _ (by omega) w6
        have l4':=l4 true
        refine ⟨L0.2 ⟨by simp only; omega,by simp only; omega,l1,by simp only; omega,fun u hu=>by have:=s2' u hu; omega⟩,⟨Ml.1 k2,Ml.1 k3,l2⟩,?_⟩
        have hq:=Qg t
        have hp:=prtA_any ⟨m,e⟩
        have n1:va.length=4:=rfl
        have n2:o4.length=5:=rfl
        have n3:AG.length=4:=rfl
        simp only[kH]
        split
        ·omega
        split
        ·omega
        split
        ·omega
        split
        ·omega
        split
        ·omega
        split
        ·simp only[List.length_cons,List.length_append,List.length_nil]; omega
        ·simp only[List.length_cons,List.length_append,List.length_nil]; omega
theorem wt_jsonL:∀(l:List Json) (n:Nat),n≤1048576→SP n (l.map (Ty.cells .json))→SH l=true∧i64L l∧l.length≤n∧∀b:Bool,(uC l b).length≤100*n
 | [],n,_,_=>⟨rfl,trivial,Nat.zero_le _,fun _=>by simp[uC]⟩
 | x::l,_,hn, .cons h t=>by
  obtain ⟨a1,a2,a3⟩:=wt_json x _ (by omega) h
  obtain ⟨b1,b2,b3,b4⟩:=wt_jsonL l _ (by omega) t
  refine ⟨by simp only[SH,a1,b1]; rfl,⟨a2,b2⟩,by simp only[List.length_cons]; omega,fun b => ?_⟩
  have b5:=b4 false
  simp only[uC,List.length_append]
  have:(if b=true then ([]:ah)else [44]).length≤1:=by cases b <;> simp
  omega
theorem wt_jsonO:∀(l:List Json) (ns:List ah) (b:Bool) (n:Nat),n≤1048576→SP n (l.map (Ty.cells .json))→(tz ns l b).length≤100*n+6*sumS ns
 | [],ns,_,n,_,_=>by simp[tz]
 | x::l,ns,b,_,hn, .cons h t=>by
  obtain ⟨a1,a2,a3⟩:=wt_json x _ (by omega) h
  have b5:=wt_jsonO l ns.tail false _ (by omega) t
  simp only[tz,List.length_append,List.length_cons]
  have:(if b=true then ([]:ah)else [44]).length≤1:=by cases b <;> simp
  cases ns with
  | nil =>
   have hq:=Qg []
   simp only[List.headD_nil,List.tail_nil,sumS,List.length_nil]at b5 hq ⊢
   omega
  | cons u ns =>
   have hq:=Qg u
   simp only[List.headD_cons,List.tail_cons,sumS]at b5 ⊢
   omega
end
mutual
theorem right_i64:∀(v:Json) (d:Int),uB v d=true→i64J v
 | ⟨k,⟨m,e⟩,t,ns,is⟩,d,h=>by
  have hL:=Vq is
  have z:G3 0:=by unfold G3; omega
  cases mI.1 h with
  | name _ _ hd hk=>exact ⟨z,z,trivial⟩
  | num _ _ hd hn =>
   have:=hn.bounds
   simp only at this
   exact ⟨by show G3 m; unfold G3; omega,by show G3 e; unfold G3; omega,trivial⟩
  | text _ _ hd ht=>exact ⟨z,z,trivial⟩
  | arr _ _ hd hi=>exact ⟨z,z,hL _ hi⟩
  | obj _ _ _ hd hl hu hi=>exact ⟨z,z,hL _ hi⟩
theorem Vq:∀(l:List Json) (d:Int),mc l d=true→i64L l
 | [],_,_=>trivial
 | x::l,d,h=>by
  simp only[mc,Bool.and_eq_true]at h
  exact ⟨right_i64 x d h.1,Vq l d h.2⟩
end
end Go.Proofs.YtmlkkgfenfdndaaGreatDoor
set_option maxRecDepth 100000
namespace Go.Proofs.YtmlkkgfenfdndaaGreatDoor.jsonWords
open Go.ChangeShapes Go.WideShapes Go.ChangeAt Go.RowKit Go.aG Door
theorem run (a0:List Int):bm vX vY (AA vh) bb [.sl (.int .i64) a0 .no] [] kOk=vh a0 (fun q0=>kOk (.bool q0) []):=by kernel_rfl
theorem contract (H:Type) (enc:TypeId × Value→H) (W:World) (base:Nat) (args:Array Value) (ds gs:List (DataW H)) (before:List MemPlace)
  (Uo:∀(j:Nat) t v,Tryz.f9.params[j]? = some t→args[j]? = some v→Value.okWide Tryz.prog W .any base t v)
  (hW:DataW.Whole enc Tryz.prog Tryz.f9.params.toList Rows.jsonWordsSpec.vars false W args.toList ds gs before) (hL:laidMetH Tryz.prog Rows.jsonWordsUptoRow.laid W) (hk:Rows.uptoSmall H (ds++gs)=true) :
  Calls Tryz.prog 9 args W fun e W'=>∃v,e = .returned v∧Rows.jsonWordsSpec.post enc Tryz.prog Tryz.f9 false true false false W args v W':=by
 have hW':=hW
 obtain ⟨p,q,hA0,hV,hpq,hfz,J9⟩:=hW
 have hA:DataW.TrodAll enc Tryz.prog W 0 (fun _=>true) true [22] args.toList ds p:=hA0
 have Uo:∀(j:Nat) t v,(#[22]:Array Nat)[j]? = some t→args[j]? = some v→Value.okWide Tryz.prog W .any base t v:=Uo
 obtain ⟨v0,vs0,d0,ds0,p0,q0,hargs,rfl,rfl,h0,r0⟩:=trodAll_cons hA
 obtain ⟨rfl,rfl,rfl⟩:=trodAll_nil r0
 obtain rfl:args = #[v0]:=by cases args; simp_all
 have hV':DataW.TrodVars enc Tryz.prog W (fun _=>true) [] gs q:=hV
 obtain ⟨rfl,rfl⟩:=trodVars_none hV'
 have hb:Rows.uptoBulkAll ([d0] ++ [])≤1048576:=of_decide_eq_true hk
 simp only[List.append_nil,Rows.uptoBulkAll]at hb
 obtain ⟨a0,q0,s0⟩:=arg_oneW (p := .sl (.int .i64)) (N:=1048576) leaves (by kernel_rfl) (by kernel_rfl) (Uo 0 22 v0 rfl rfl) h0 (by omega) (Nat.le_of_ble_eq_true rfl)
 have ra:cT W [] Uh [.sl (.int .i64) a0 .no] #[v0].toList:=(.cons q0 .nil)
 obtain ⟨hsays,hblocks⟩:=lay_met (W:=W) hL
 refine (calls_true Tryz.func9 rfl rfl (Ma Unit _ (aM _)) hsays hblocks ra ((run a0).trans (Vp a0 s0 (fun q0=>kOk (.bool q0) [])))).mono fun e W' ⟨he,L⟩=>⟨_,he,?_⟩
 exact post_true (by kernel_rfl) (params_ok (by kernel_rfl)) rfl rfl rfl (show Tryz.prog.underlying 4=some .bool by kernel_rfl) hW' L
theorem reads (os:Os) {H:Type} (enc:TypeId × Value→H):(DataW.whole enc Tryz.prog ((QI os).forCall (fun _ _=>0) ⟨#[], #[.slice none 0 0], []⟩).memory Tryz.f9.params.toList Rows.jsonWordsSpec.vars false (#[.slice none 0 0]:Array Value).toList 8).map (fun x=>(x.1,x.2.1))=some ([.nil], []):=by kernel_rfl
theorem lifted (os:Os) (started:os.Started) (H:Type) (enc:TypeId × Value→H) (F:Stop.Interp) :
  ReturnsInHanded {} Tryz.checked os 9 .any ((Rows.OpenSpec.upto Rows.jsonWordsSpec).preRow enc Tryz.prog Tryz.f9 Rows.jsonWordsUptoRow.domain false Rows.jsonWordsUptoRow.laid) (((Rows.OpenSpec.upto Rows.jsonWordsSpec).at F).post enc Tryz.prog Tryz.f9 false true false false):=by
 obtain ⟨⟨x1,x2,x3⟩,hx,hx1⟩:=Option.map_eq_some_iff.1 (reads os enc)
 simp only[Prod.mk.injEq]at hx1
 obtain ⟨rfl,rfl⟩:=hx1
 refine returnsInHanded_of_row (C:=Tryz.checked) (s:=Rows.OpenSpec.upto Rows.jsonWordsSpec) own started (by kernel_rfl) Tryz.func9
  (witness_row_atRef (enc:=enc) (C:=Tryz.checked) false (QI os) #[.slice none 0 0] rfl (by kernel_rfl) (by kernel_rfl) (by kernel_rfl)
   (OpenSpec.preRow_of_cond 8 hx (by kernel_rfl) (fun k hk=>by cases hk; kernel_rfl) (by kernel_rfl) (laid_met os _))) ?_
 intro W base args ds gs before Uo hW _ xA _ hL _ _
 exact contract H enc W base args ds gs before Uo hW hL (xA _ rfl)
theorem saidUpto:Rows.JsonWordsUptoSaid :=
 OpenClaim.holds_of_cond 9 Tryz.f9 rfl rfl rfl rfl rfl rfl rfl ⟨rfl,rfl,rfl,rfl,rfl⟩ rfl rfl rfl rfl rfl (by kernel_rfl) Tryz.func9 (by kernel_rfl)
  (of_decide_eq_true (by kernel_rfl)) (by unfold Func.isWrapper; first|(rw[if_pos (by decide +kernel)]; kernel_rfl)|(rw[if_neg (by decide +kernel)]; exact ⟨rfl,rfl⟩))
  (fun os started H enc _ F=>by rw[OpenClaim.pre_eq_preRow]; exact lifted os started H enc F)
theorem plain (f:FuncId) (fn:Func) (hf:Tryz.pinned.checked.prog.funcNamed "humpyard/humpyardlaw04.JsonWords" = some f) (hfn:Tryz.pinned.checked.prog.funcs[f]? = some fn) :
  true=Tryz.pinned.checked.prog.looks []∧∀(j:Nat) t,fn.params[j]? = some t→Tryz.pinned.checked.prog.wantsStandIn t=false:=by
 obtain rfl:f=9:=Option.some.inj ((show Tryz.prog.funcNamed "humpyard/humpyardlaw04.JsonWords" = some 9 by kernel_rfl).symm.trans hf) |>.symm
 obtain rfl:fn=Tryz.f9:=(Option.some.inj (Tryz.func9.symm.trans hfn)).symm
 refine ⟨by kernel_rfl,fun j t ht => ?_⟩
 have DF:Tryz.f9.params.toList.all (fun t => !Tryz.prog.wantsStandIn t)=true:=by kernel_rfl
 have hm:t∈Tryz.f9.params.toList:=Array.mem_toList_iff.2 (Array.mem_of_getElem? ht)
 have:=List.all_eq_true.1 DF t hm
 exact (show Tryz.prog.wantsStandIn t=false by simpa using this)
end Go.Proofs.YtmlkkgfenfdndaaGreatDoor.jsonWords
namespace Go.Proofs.YtmlkkgfenfdndaaGreatDoor
open Go.RowKit
theorem jsonWords_card_upto:Rows.JsonWordsUptoCardSaid :=
 Claim7.holds_tied_plain_at .later [] _ _ _ _ jsonWords.saidUpto (fun _ h=>by cases h) (by kernel_rfl) (fun _ h=>by cases h) jsonWordsUpto_row_tie rfl ⟨rfl,rfl⟩ (by kernel_rfl) rfl jsonWords.plain (by kernel_rfl)
end Go.Proofs.YtmlkkgfenfdndaaGreatDoor
end
