/-
  OrderBack, part 9 of 10.
-/
import Derived.Test.YtidfokedcnhahaaGreatDoorOrderBackB8
set_option linter.unusedSimpArgs false
set_option linter.unnecessarySimpa false
set_option linter.unusedVariables false
set_option linter.unusedSectionVars false
noncomputable section
set_option maxRecDepth 100000
namespace Go.Proofs.YtidfokedcnhahaaGreatDoor
open Go Go.aC Go.Lib
def stripN:Nat→Int→Int→ft
 | 0,n,e=>⟨n,e⟩
 | f+1,n,e=>if Int.tmod n 10=0 then stripN f (Int.tdiv n 10) (e+1)else ⟨n,e⟩
def dI (n:Int):ft:=if n=0 then ⟨0,0⟩else stripN 20 n 0
theorem VT:∀(f:Nat) (n e:Int),n≠0→n.natAbs<10 ^ f→∃(u:Int) (j:Nat),Int.tmod u 10≠0∧n=u*10 ^ j∧stripN f n e=⟨u,e+j⟩
 | 0,n,e,h0,h=>by omega
 | f+1,n,e,h0,h=>by
  simp only[stripN]
  by_cases hm:Int.tmod n 10=0
  ·rw[if_pos hm]
   obtain ⟨c,rfl⟩:=Int.dvd_of_tmod_eq_zero hm
   have hc:Int.tdiv (10*c) 10=c:=Int.mul_tdiv_cancel_left c (by decide)
   rw[hc]
   have hp:10 ^ (f+1)=10*10 ^ f:=by rw[Nat.pow_succ,Nat.mul_comm]
   obtain ⟨u,j,h1,h2,h3⟩:=VT f c (e+1) (by rintro rfl; exact h0 rfl) (by rw[hp]at h; omega)
   refine ⟨u,j+1,h1,by rw[h2,Int.pow_succ,Int.mul_comm,Int.mul_assoc],?_⟩
   rw[h3]
   congr 1
   omega
  ·rw[if_neg hm]
   exact ⟨n,0,hm,by simp,by simp⟩
def cW (n:Int):Bool:=decide (0≤n)&&decide (n≤1000000000)
theorem xm {n:Int}:cW n=true↔0≤n∧n≤1000000000:=by unfold cW; rw[Bool.and_eq_true,decide_eq_true_eq,decide_eq_true_eq]
theorem Zq {n:Int} (h:cW n=true):(n=0∧dI n=⟨0,0⟩)∨∃(u:Int) (j:Nat),Int.tmod u 10≠0∧n=u*10 ^ j∧dI n=⟨u,j⟩∧j≤9∧1≤u∧u≤1000000000:=by
 obtain ⟨h1,h2⟩:=xm.1 h
 by_cases h0:n=0
 ·exact .inl ⟨h0,by unfold dI; rw[if_pos h0]⟩
 ·have e20:(10:Nat) ^ 20=100000000000000000000:=rfl
  obtain ⟨u,j,g1,g2,g3⟩:=VT 20 n 0 h0 (by omega)
  have hu:1≤u:=by
   have hp:(0:Int)<10 ^ j:=Int.pow_pos (by decide)
   rcases Int.lt_or_le 0 u with h|h
   ·omega
   ·have:u*10 ^ j≤0:=Int.mul_nonpos_of_nonpos_of_nonneg h (by omega)
    omega
  have hj:j≤9:=by
   rcases Nat.lt_or_ge 9 j with h|h
   ·exfalso
    have hp:(10:Int) ^ 10≤10 ^ j:=by
     have:=Nat.pow_le_pow_right (n:=10) (by decide) (show 10≤j by omega)
     exact_mod_cast this
    have e10:(10:Int) ^ 10=10000000000:=by decide
    have hm:1*(10:Int) ^ j≤u*10 ^ j:=Int.mul_le_mul_of_nonneg_right hu (by omega)
    omega
   ·exact h
  have hle:u≤n:=by
   have hp:(1:Int)≤10 ^ j:=PI j
   have:u*1≤u*10 ^ j:=Int.mul_le_mul_of_nonneg_left hp (by omega)
   omega
  refine .inr ⟨u,j,g1,g2,?_,hj,hu,by omega⟩
  unfold dI
  rw[if_neg h0,g3]
  congr 1
  omega
theorem dI_fm {n:Int} (h:cW n=true):Fm (dI n):=by
 rcases Zq h with ⟨_,e⟩|⟨u,j,g1,_,e,g4,g5,g6⟩
 ·rw[e]; exact Fm.mk0
 ·rw[e]; exact .inr ⟨g1,by show -1000000000000000≤u; omega,by show u≤1000000000000000; omega,by show -9≤(j:Int); omega,by show (j:Int)≤9; omega⟩
theorem shiftN_eq:∀(j:Nat) (u:Int),0≤u→u*10 ^ j≤1000000000→Pu.L7 j u=some (u*10 ^ j)
 | 0,u,_,_=>by simp[Pu.L7]
 | j+1,u,h0,h=>by
  have e:u*10 ^ (j+1)=(u*10)*10 ^ j:=by rw[Int.pow_succ,Int.mul_assoc,Int.mul_comm 10]
  have hp:(1:Int)≤10 ^ j:=PI j
  have hle:u*10≤u*10 ^ (j+1):=by
   rw[e]
   have:u*10*1≤u*10*10 ^ j:=Int.mul_le_mul_of_nonneg_left hp (by omega)
   omega
  simp only[Pu.L7]
  rw[if_pos (by omega),shiftN_eq j (u*10) (by omega) (by rw[←e]; exact h),e]
theorem decInt_dI {n:Int} (h:cW n=true):Pu.tp (dI n)=some n:=by
 obtain ⟨h1,h2⟩:=xm.1 h
 rcases Zq h with ⟨rfl,e⟩|⟨u,j,g1,g2,e,g4,g5,g6⟩
 ·rw[e]; rfl
 ·rw[e]
  unfold Pu.tp
  have hr:Pu.RB ⟨u,j⟩=true:=by
   unfold Pu.RB
   rw[if_neg (by show ¬u=0; omega)]
   simp only[Bool.and_eq_true,decide_eq_true_eq]
   refine ⟨⟨g1,by omega,by omega⟩,by omega,by omega⟩
  rw[if_pos ⟨hr,by show (0:Int)≤(j:Int); omega⟩]
  show Pu.L7 ((j:Int)).toNat u=some n
  rw[Int.toNat_natCast,shiftN_eq j u (by omega) (by omega),←g2]
def Bl (n:Int):Json:=⟨4,dI n, [], [], []⟩
def strV (s:ah):Json:=⟨5,⟨0,0⟩,s, [], []⟩
def WJ (b:Bool):Json:=⟨if b then 3 else 2,⟨0,0⟩, [], [], []⟩
def RX (l:List Json):Json:=⟨6,⟨0,0⟩, [], [],l⟩
def objV (ns:List ah) (is:List Json):Json:=⟨7,⟨0,0⟩, [],ns,is⟩
theorem Pr {n:Int} (h:cW n=true):Pu.YH (Bl n)=some n:=by
 unfold Pu.YH Bl
 rw[if_pos rfl]
 exact decInt_dI h
theorem flagF_yes (b:Bool):Pu.YI (WJ b)=some b:=by cases b <;> rfl
theorem Gx {n:Int} (h:cW n=true) {d:Int} (hd:d≤16):dM (Bl n) d=true:=eV.2 (.num _ d hd (dI_fm h))
theorem right_str {s:ah} (h:fU s=true) {d:Int} (hd:d≤16):dM (strV s) d=true:=eV.2 (.text _ d hd h)
theorem right_yes (b:Bool) {d:Int} (hd:d≤16):dM (WJ b) d=true:=by cases b <;> exact eV.2 (.name _ d hd (by simp))
theorem right_arr {l:List Json} {d:Int} (h:dO l (d+1)=true) (hd:d≤16):dM (RX l) d=true:=eV.2 (.arr _ d hd h)
theorem right_obj {ns:List ah} {is:List Json} {d:Int} (hl:ns.length=is.length) (hu:vI [] ns=true) (h:dO is (d+1)=true) (hd:d≤16):dM (objV ns is) d=true:=eV.2 (.obj _ _ d hd hl hu h)
theorem TQ {n:Int} (h:cW n=true):(cS (Bl n)).length≤40:=by
 have e:cS (Bl n)=AD (dI n):=by unfold Bl; simp only[cS]; rfl
 have e2:AD (dI n)=WG (dI n):=by unfold AD; rw[IW.2 (dI_fm h)]; rfl
 rw[e,e2]
 exact prt_len _ (dI_fm h)
theorem len_yes (b:Bool):(cS (WJ b)).length≤5:=by cases b <;> decide
theorem len_str (s:ah):(cS (strV s)).length≤6*s.length+2:=by
 have e:cS (strV s)=Pn s:=by unfold strV; simp only[cS]; rfl
 rw[e]
 exact PO s
theorem len_arr (l:List Json):(cS (RX l)).length=(jb l true).length+2:=by
 have e:cS (RX l)=91::(jb l true ++ [93]):=by unfold RX; simp only[cS]; rfl
 rw[e]; simp
theorem len_obj (ns:List ah) (l:List Json):(cS (objV ns l)).length=(ja ns l true).length+2:=by
 have e:cS (objV ns l)=123::(ja ns l true ++ [125]):=by unfold objV; simp only[cS]; rfl
 rw[e]; simp
theorem Zr:∀(l:List Json) (b:Bool) (m:Nat),(∀x∈l,(cS x).length≤m)→(jb l b).length≤l.length*(m+1)
 | [],_,_,_=>by simp[jb]
 | x::l,b,m,h=>by
  have h1:=h x (by simp)
  have h2:=Zr l false m fun y hy=>h y (by simp[hy])
  have:(if b=true then ([]:ah)else [44]).length≤1:=by cases b <;> simp
  simp only[jb,List.length_append,List.length_cons,Nat.succ_mul]
  omega
end Go.Proofs.YtidfokedcnhahaaGreatDoor
set_option maxRecDepth 100000
namespace Go.Proofs.YtidfokedcnhahaaGreatDoor
open Go Go.aC
def TR (h:Nat) (c:UInt8):Nat:=((h ^^^ c.toNat)*16777619) % 4294967296
theorem Zs (h:Nat) (c:UInt8):TR h c<4294967296:=by
 unfold TR
 exact Nat.mod_lt _ (by decide)
def fnvN (s:ah) (h:Nat):Nat:=s.foldl TR h
def fnvS (s:ah):Nat:=fnvN s 2166136261
theorem fnv_cons (c:UInt8) (s:ah) (h:Nat):fnvN (c::s) h=fnvN s (TR h c):=by
 unfold fnvN
 rw[List.foldl_cons]
theorem fnv_lt (s:ah):∀(h:Nat),h<4294967296→fnvN s h<4294967296:=by
 induction s with
 | nil=>intro h hh; unfold fnvN; rw[List.foldl_nil]; exact hh
 | cons c s ih=>intro h _; rw[fnv_cons]; exact ih _ (Zs h c)
theorem xor_lt {h:Nat} (hh:h<4294967296) (c:UInt8):h ^^^ c.toNat<4294967296:=by
 have:=UInt8.toNat_lt c
 exact Nat.xor_lt_two_pow (n:=32) hh (by omega)
def hxS:ah := [48,49,50,51,52,53,54,55,56,57,97,98,99,100,101,102]
def hxB (n:Nat):UInt8:=hxS.getD (n % 16) 0
def hex8 (h:Nat):ah := [hxB (h / 268435456),hxB (h / 16777216),hxB (h / 1048576),hxB (h / 65536),hxB (h / 4096),hxB (h / 256),hxB (h / 16),hxB h]
theorem hxB_ne (a:Nat):hxB a≠35:=by
 have all:∀n:Fin 16,hxS.getD n.val 0≠35:=by decide +kernel
 exact all ⟨a % 16,Nat.mod_lt _ (by decide)⟩
theorem hex8_ne (h:Nat):∀x∈hex8 h,x≠35:=by
 intro x hx
 unfold hex8 at hx
 simp only[List.mem_cons,List.not_mem_nil,or_false]at hx
 rcases hx with rfl|rfl|rfl|rfl|rfl|rfl|rfl|rfl <;> exact hxB_ne _
def rN (s:ah):ah:=s++35::hex8 (fnvS s)
theorem PS (s:ah):(rN s).length=s.length+9:=by simp[rN,hex8]
def Nc (s:ah):Option ah:=if 9≤s.length∧rN (s.take (s.length - 9))=s then some (s.take (s.length - 9))else none
theorem open_seal (s:ah):Nc (rN s)=some s:=by
 have hl:=PS s
 have ht:(rN s).take ((rN s).length - 9)=s:=by rw[hl,Nat.add_sub_cancel]; unfold rN; simp
 unfold Nc
 rw[ht,if_pos ⟨by omega,rfl⟩]
theorem open_some {s t:ah} (h:Nc s=some t):s=rN t:=by
 unfold Nc at h
 split at h
 ·rename_i hc
  cases h
  exact hc.2.symm
 ·cases h
end Go.Proofs.YtidfokedcnhahaaGreatDoor
set_option maxRecDepth 100000
namespace Go.Proofs.YtidfokedcnhahaaGreatDoor
open Go Go.aC Go.Lib
def U3:ah := [97,98,99,100,101,102,103,104,105,106,107,108,109,110,111,112,113,114,115,116,117,118,119,120,121,122,65,66,67,68,69,70,71,72,73,74,75,76,77,78,79,80,81,82,83,84,85,86,87,88,89,90,48,49,50,51,52,53,54,55,56,57,95,46,58,45]
def DL (s:ah):Bool:=s.all (U3.contains ·)&&(!s.isEmpty&&decide (s.length≤16))
def AE:Stop→List aC.Way→List Stop→Bool
 | _, [], []=>true
 | f,e::es,t::ts=>(cW e.yz&&cW e.seq&&cW t.node&&cW t.seq)&&(decide (e.seq=f.seq+1)&&decide (t.seq=e.seq+1))&&((e.bP==t.bP)&&(!t.bP||f.bP))&&AE t es ts
 | _,_,_=>false
def pE (o:Order):Bool :=
 DL o.cU&&(cW o.header&&cW o.order&&cW o.update)&&(match o.nodes with
  | []=>false
  | f::ns=>decide (ns.length<64)&&(decide (Int.tmod f.seq 2=0)&&f.bP)&&(cW f.node&&cW f.seq)&&AE f o.bN ns)
def Gn:ah := [104,101,97,100,101,114,73,100]
def zK:ah := [115,101,114,105,97,108,78,117,109,98,101,114]
def MC:ah := [111,114,100,101,114,73,100]
def Gp:ah := [111,114,100,101,114,85,112,100,97,116,101,73,100]
def MD:ah := [110,111,100,101,115]
def RY:ah := [101,100,103,101,115]
def KT:ah := [110,111,100,101,73,100]
def KU:ah := [101,100,103,101,73,100]
def KV:ah := [115,101,113,117,101,110,99,101,73,100]
def NC:ah := [114,101,108,101,97,115,101,100]
def KW (n:ah) (a b:Int) (r:Bool):Json:=objV [n,KV,NC] [Bl a,Bl b,WJ r]
def Nd (x:Stop):Json:=KW KT x.node x.seq x.bP
def WK (x:aC.Way):Json:=KW KU x.yz x.seq x.bP
def RZ:List ah := [Gn,zK,MC,Gp,MD,RY]
def ub (o:Order):Json:=objV RZ [Bl o.header,strV o.cU,Bl o.order,Bl o.update,RX (o.nodes.map Nd),RX (o.bN.map WK)]
def vJ (v:Json) (s:ah):Option Int:=(Pu.Wp v s).bind Pu.YH
def Fi (v:Json) (s:ah):Option ah:=(Pu.Wp v s).bind Pu.textF
def JP (v:Json) (s:ah):Option Bool:=(Pu.Wp v s).bind Pu.YI
def Fj (v:Json) (s:ah):Option (List Json):=(Pu.Wp v s).bind Pu.listF
def IY (x:Json):Option Stop:=match vJ x KT,vJ x KV,JP x NC with
 | some a,some b,some r=>some ⟨a,b,r⟩
 | _,_,_=>none
def TS (x:Json):Option aC.Way:=match vJ x KU,vJ x KV,JP x NC with
 | some a,some b,some r=>some ⟨a,b,r⟩
 | _,_,_=>none
def ME {α:Type} (f:Json→Option α):List Json→Option (List α)
 | []=>some []
 | x::l=>match f x,ME f l with
  | some y,some r=>some (y::r)
  | _,_=>none
def orderT (v:Json):Option Order :=
 match vJ v Gn,Fi v zK,vJ v MC,vJ v Gp,Fj v MD,Fj v RY with
 | some h,some s,some n,some u,some ns,some es =>
  (match ME IY ns,ME TS es with
   | some a,some b=>some ⟨h,s,n,u,a,b⟩
   | _,_=>none)
 | _,_,_,_,_,_=>none
def takeO (s:ah):Except Int Order :=
 match Nc s with
 | none => .error 60
 | some t =>
  if (td t).2.1≠0 then .error (td t).2.1 else
  match orderT (td t).1 with
  | some o=>if pE o then .ok o else .error 80
  | none => .error 80
theorem part_at {n:ah} {a b:Int} {r:Bool} (hn:n=KT∨n=KU) (ha:cW a=true) (hb:cW b=true):vJ (KW n a b r) n=some a∧vJ (KW n a b r) KV=some b∧JP (KW n a b r) NC=some r:=by
 have e1:Pu.Wp (KW n a b r) n=some (Bl a):=by rcases hn with rfl|rfl <;> rfl
 have e2:Pu.Wp (KW n a b r) KV=some (Bl b):=by rcases hn with rfl|rfl <;> rfl
 have e3:Pu.Wp (KW n a b r) NC=some (WJ r):=by rcases hn with rfl|rfl <;> rfl
 unfold vJ JP
 rw[e1,e2,e3]
 exact ⟨Pr ha,Pr hb,flagF_yes r⟩
def U4 (x:Stop):Prop:=cW x.node=true∧cW x.seq=true
def wayOk (x:aC.Way):Prop:=cW x.yz=true∧cW x.seq=true
theorem stop_back {x:Stop} (h:U4 x):IY (Nd x)=some x:=by
 obtain ⟨h1,h2,h3⟩:=part_at (r:=x.bP) (.inl rfl) h.1 h.2
 unfold IY Nd
 rw[h1,h2,h3]
theorem way_back {x:aC.Way} (h:wayOk x):TS (WK x)=some x:=by
 obtain ⟨h1,h2,h3⟩:=part_at (r:=x.bP) (.inr rfl) h.1 h.2
 unfold TS WK
 rw[h1,h2,h3]
theorem Zt {α:Type} {f:Json→Option α} {g:α→Json}:∀(l:List α),(∀x∈l,f (g x)=some x)→ME f (l.map g)=some l
 | [],_=>rfl
 | x::l,h=>by
  simp only[List.map_cons,ME]
  rw[h x (by simp),Zt l fun y hy=>h y (by simp[hy])]
theorem Zu:∀(f:Stop) (es:List aC.Way) (ts:List Stop),AE f es ts=true→es.length=ts.length∧(∀x∈es,wayOk x)∧∀x∈ts,U4 x
 | _, [], [],_=>⟨rfl,by simp,by simp⟩
 | f,e::es,t::ts,h=>by
  simp only[AE,Bool.and_eq_true]at h
  obtain ⟨h1,h2,h3⟩:=Zu t es ts h.2
  obtain ⟨⟨⟨⟨⟨⟨a1,a2⟩,a3⟩,a4⟩,_⟩,_⟩,_⟩:=h
  refine ⟨by simp[h1],fun x hx => ?_,fun x hx => ?_⟩
  ·rcases List.mem_cons.1 hx with rfl|hx
   ·exact ⟨a1,a2⟩
   ·exact h2 x hx
  ·rcases List.mem_cons.1 hx with rfl|hx
   ·exact ⟨a3,a4⟩
   ·exact h3 x hx
 | _, [],_::_,h=>by simp[AE]at h
 | _,_::_, [],h=>by simp[AE]at h
structure OkO (o:Order):Prop where
 name:DL o.cU=true
 header:cW o.header=true
 order:cW o.order=true
 update:cW o.update=true
 nodes:∀x∈o.nodes,U4 x
 bN:∀x∈o.bN,wayOk x
 many:1≤o.nodes.length∧o.nodes.length≤64∧o.bN.length+1=o.nodes.length
theorem PT {o:Order} (h:pE o=true):OkO o:=by
 obtain ⟨hd,ve,od,up,ns,es⟩:=o
 cases ns with
 | nil=>simp[pE]at h
 | cons f ns =>
  simp only[pE,Bool.and_eq_true,decide_eq_true_eq]at h
  obtain ⟨⟨h1,⟨h2,h3⟩,h4⟩,⟨⟨h5,_⟩,h6,h7⟩,h8⟩:=h
  obtain ⟨g1,g2,g3⟩:=Zu _ _ _ h8
  refine ⟨h1,h2,h3,h4,fun x hx => ?_,g2,by simp,by simp; omega,by simp[g1]⟩
  rcases List.mem_cons.1 hx with rfl|hx
  ·exact ⟨h6,h7⟩
  ·exact g3 x hx
theorem order_back {o:Order} (h:OkO o):orderT (ub o)=some o:=by
 have e1:vJ (ub o) Gn=some o.header:=by
  show Pu.YH (Bl o.header)=_
  exact Pr h.header
 have e2:Fi (ub o) zK=some o.cU:=rfl
 have e3:vJ (ub o) MC=some o.order:=by
  show Pu.YH (Bl o.order)=_
  exact Pr h.order
 have e4:vJ (ub o) Gp=some o.update:=by
  show Pu.YH (Bl o.update)=_
  exact Pr h.update
 have e5:Fj (ub o) MD=some (o.nodes.map Nd):=rfl
 have e6:Fj (ub o) RY=some (o.bN.map WK):=rfl
 unfold orderT
 rw[e1,e2,e3,e4,e5,e6]
 simp only
 rw[Zt o.nodes fun x hx=>stop_back (h.nodes x hx),Zt o.bN fun x hx=>way_back (h.bN x hx)]
theorem R0 {s:ah} (h:DL s=true):fU s=true∧s.length≤16:=by
 unfold DL at h
 simp only[Bool.and_eq_true,decide_eq_true_eq]at h
 refine ⟨?_,h.2.2⟩
 refine Kr.2 ⟨s.map (·.toNat),fun c hc => ?_,?_⟩
 ·obtain ⟨b,hb,rfl⟩:=List.mem_map.1 hc
  have:=List.all_eq_true.1 h.1 b hb
  have all:∀n:Fin 256,U3.contains (UInt8.ofNat n.val)=true→n.val<128:=by decide +kernel
  have h128:b.toNat<128:=by simpa using all ⟨b.toNat,UInt8.toNat_lt b⟩ (by simpa using this)
  exact .inl (by omega)
 ·have wR:=List.all_eq_true.1 h.1
  clear h
  induction s with
  | nil=>rfl
  | cons b s ih =>
   have hb:=wR b (by simp)
   have all:∀n:Fin 256,U3.contains (UInt8.ofNat n.val)=true→enc n.val = [UInt8.ofNat n.val]:=by decide +kernel
   have WU:=all ⟨b.toNat,UInt8.toNat_lt b⟩ (by simpa using hb)
   simp only[List.map_cons,ff,List.flatMap_cons]
   have:=ih fun x hx=>wR x (by simp[hx])
   unfold ff at this
   rw[←this]
   have hb3:enc b.toNat = [b]:=by simpa using WU
   rw[hb3]
   rfl
theorem Zv {n:ah} {a b:Int} {r:Bool} (hn:n=KT∨n=KU) (ha:cW a=true) (hb:cW b=true) {d:Int} (hd:d≤15):dM (KW n a b r) d=true:=by
 have hu:vI [] [n,KV,NC]=true:=by rcases hn with rfl|rfl <;> decide +kernel
 refine right_obj rfl hu ?_ (by omega)
 simp only[dO,Bool.and_true]
 rw[Gx ha (by omega),Gx hb (by omega),right_yes r (by omega)]
 rfl
theorem rightL_of {l:List Json} {d:Int} (h:∀x∈l,dM x d=true):dO l d=true:=by
 induction l with
 | nil=>rfl
 | cons x l ih =>
  simp only[dO]
  rw[h x (by simp),ih fun y hy=>h y (by simp[hy])]
  rfl
theorem Ps {o:Order} (h:OkO o):dM (ub o) 1=true:=by
 obtain ⟨hv,_⟩:=R0 h.name
 refine right_obj rfl (by decide +kernel) ?_ (by omega)
 have hn:dO (o.nodes.map Nd) (1+1+1)=true:=rightL_of fun x hx=>by
  obtain ⟨y,hy,rfl⟩:=List.mem_map.1 hx
  exact Zv (.inl rfl) (h.nodes y hy).1 (h.nodes y hy).2 (by omega)
 have he:dO (o.bN.map WK) (1+1+1)=true:=rightL_of fun x hx=>by
  obtain ⟨y,hy,rfl⟩:=List.mem_map.1 hx
  exact Zv (.inr rfl) (h.bN y hy).1 (h.bN y hy).2 (by omega)
 simp only[dO,Bool.and_true]
 rw[Gx h.header (by omega),right_str hv (by omega),Gx h.order (by omega),Gx h.update (by omega),right_arr hn (by omega),right_arr he (by omega)]
 rfl
theorem len_part {n:ah} {a b:Int} {r:Bool} (hn:n=KT∨n=KU) (ha:cW a=true) (hb:cW b=true):(cS (KW n a b r)).length≤130:=by
 have h1:=TQ ha
 have h2:=TQ hb
 have h3:=len_yes r
 have hq:(Pn n).length≤8∧(Pn KV).length≤12∧(Pn NC).length≤10:=by rcases hn with rfl|rfl <;> decide +kernel
 obtain ⟨q1,q2,q3⟩:=hq
 have e:=len_obj [n,KV,NC] [Bl a,Bl b,WJ r]
 unfold KW
 rw[e]
 simp only[ja,List.headD_cons,List.tail_cons,List.length_append,List.length_cons,List.length_nil,if_true,Bool.false_eq_true,if_false]
 omega
theorem PV {o:Order} (h:OkO o):(cS (ub o)).length≤20000:=by
 obtain ⟨_,hv⟩:=R0 h.name
 obtain ⟨m1,m2,m3⟩:=h.many
 have h1:=TQ h.header
 have h2:=TQ h.order
 have h3:=TQ h.update
 have h4:=len_str o.cU
 have h5:=len_arr (o.nodes.map Nd)
 have h6:=len_arr (o.bN.map WK)
 have h7:=Zr (o.nodes.map Nd) true 130 fun x hx=>by
  obtain ⟨y,hy,rfl⟩:=List.mem_map.1 hx
  exact len_part (.inl rfl) (h.nodes y hy).1 (h.nodes y hy).2
 have h8:=Zr (o.bN.map WK) true 130 fun x hx=>by
  obtain ⟨y,hy,rfl⟩:=List.mem_map.1 hx
  exact len_part (.inr rfl) (h.bN y hy).1 (h.bN y hy).2
 rw[List.length_map]at h7 h8
 have q:(Pn Gn).length≤10∧(Pn zK).length≤14∧(Pn MC).length≤9∧(Pn Gp).length≤15∧(Pn MD).length≤7∧(Pn RY).length≤7:=by decide +kernel
 obtain ⟨q1,q2,q3,q4,q5,q6⟩:=q
 unfold ub RZ
 rw[len_obj]
 simp only[ja,List.headD_cons,List.tail_cons,List.length_append,List.length_cons,List.length_nil,if_true,Bool.false_eq_true,if_false]
 omega
theorem take_lay {o:Order} (h:pE o=true):takeO (rN (cS (ub o))) = .ok o:=by
 have hk:=PT h
 unfold takeO
 rw[open_seal]
 simp only
 rw[parse_print (Ps hk) (PV hk)]
 simp only[ne_eq,not_true_eq_false,if_false]
 rw[order_back hk]
 simp only
 rw[if_pos h]
theorem right_kind {v:Json} {d:Int} (h:dM v d=true):xE v.kind:=by
 cases eV.1 h <;> first|(unfold xE; simp only; omega)|(unfold xE; decide)
mutual
theorem KX:∀(v:Json) (d:Int),dM v d=true→Po v=true→Pu.FD v
 | ⟨k,⟨m,e⟩,t,ns,is⟩,d,h,hl=>by
  have hL:=Zw is
  obtain ⟨l1,l2,l3,l4,l5⟩:=EI.1 hl
  have hk:=right_kind h
  have hi:=right_i64 _ _ h
  have hI:∀y∈is,Pu.FD y:=by
   cases eV.1 h with
   | name _ _ hd hk=>simp
   | num _ _ hd hn=>simp
   | text _ _ hd ht=>simp
   | arr _ _ hd hi=>exact hL _ hi l3
   | obj _ _ _ hd hl hu hi=>exact hL _ hi l3
  exact Pu.jok_mk hk hi.1 hi.2.1 (by simp only at l4; omega) l1 (fun s hs=>by have:=l5 s hs; omega) l2 hI
theorem Zw:∀(l:List Json) (d:Int),dO l d=true→Pp l=true→∀y∈l,Pu.FD y
 | [],_,_,_=>by simp
 | x::l,d,h,hl=>by
  simp only[dO,Pp,Bool.and_eq_true]at h hl
  intro y hy
  rcases List.mem_cons.1 hy with e|hy
  ·rw[e]
   exact KX x d h.1 hl.1
  ·exact Zw l d h.2 hl.2 y hy
end
theorem parse_jok {s:ah} (h:(td s).2.1=0):Pu.FD (td s).1:=by
 obtain ⟨h1,h2,_⟩:=parseJ_ok s h
 exact KX _ 1 h1 h2
theorem dec_num {n:Int} (h:cW n=true):(∀ {R:Type} (k:ft→Bool→Option R),bj n 0 k=k (dI n) true)∧∀ {R:Type} (k:ft→Bool→Option R),tT n 0 k=k (dI n) true:=by
 obtain ⟨h1,h2⟩:=xm.1 h
 rcases Zq h with ⟨rfl,e⟩|⟨u,j,g1,g2,e,g4,g5,g6⟩
 ·rw[e]
  exact ⟨fun k=>UX 0 k,fun k=>refMake_zero 0 k⟩
 ·rw[e]
  have hI:xE (u*10 ^ j):=by rw[←g2]; unfold xE; omega
  have hm:VO u (0+(j:Int))=(⟨u,(j:Int)⟩,true):=by
   unfold VO
   rw[if_pos ⟨by omega,by omega,by omega,by omega⟩,Int.zero_add]
  constructor
  ·intro R k
   have:=make_ok u j 0 g1 hI (by omega) (by omega) k
   rw[hm,←g2]at this
   exact this
  ·intro R k
   have:=refMake_ok u j 0 g1 hI (by unfold xE; omega) k
   rw[hm,←g2]at this
   exact this
theorem Zx {R:Type} {n:Int} (h:cW n=true) (k:Json→Option R):gn n k=k (Bl n):=by
 unfold gn N8
 rw[(dec_num h).1]
 rfl
abbrev YState:=aC.State
structure OkA (s:YState):Prop where
 name:DL s.cU=true
 header:cW s.header=true
 boot:cW s.boot=true
 order:cW s.order=true
 update:cW s.update=true
 node:cW s.node=true
 seq:cW s.seq=true
 accepted:cW s.accepted=true
def A6 (c n:Int):Int:=Int.tmod (if c<0 then -(c+1)else c) n
theorem Zy (c n:Int):0≤A6 c n:=by
 unfold A6
 apply Int.tmod_nonneg
 split <;> omega
theorem Zz (c:Int) {n:Int} (h:0<n):A6 c n<n:=by
 unfold A6
 exact Int.tmod_lt_of_pos _ h
theorem PW (c:Int):cW (A6 c 1000000001)=true:=xm.2 ⟨Zy c _,by have:=Zz c (n:=1000000001) (by decide); omega⟩
def fitL:ah := [97,98,99,120,121,122,65,66,67,88,89,90,48,49,56,57,95,46,58,45]
def fitB (b:UInt8):UInt8:=fitL.getD (b.toNat % 20) 0
def fitN (s:ah):ah:=110::(s.take 15).map fitB
theorem fitB_ok (b:UInt8):U3.contains (fitB b)=true:=by
 have all:∀n:Fin 20,U3.contains (fitL.getD n.val 0)=true:=by decide +kernel
 exact all ⟨b.toNat % 20,Nat.mod_lt _ (by decide)⟩
theorem fitN_ok (s:ah):DL (fitN s)=true:=by
 unfold DL fitN
 simp only[List.isEmpty_cons,Bool.not_false,Bool.true_and,Bool.and_eq_true,decide_eq_true_eq,List.length_cons,List.length_map,List.length_take]
 refine ⟨List.all_eq_true.2 fun x hx => ?_,by omega⟩
 rcases List.mem_cons.1 hx with rfl|hx
 ·decide +kernel
 ·obtain ⟨y,_,rfl⟩:=List.mem_map.1 hx
  exact fitB_ok y
theorem even_mod (x:Int):Int.tmod (2*x) 2=0:=Int.tmod_eq_zero_of_dvd ⟨x,rfl⟩
def mi (o:Order) (first b:Int) (i:Nat):Stop:=⟨if i<o.nodes.length then A6 (o.nodes.getD i Stop.z).node 1000000001 else 0,first+2*i,decide ((i:Int)<b)⟩
def Fk (o:Order) (first b:Int) (i:Nat):aC.Way:=⟨if i<o.nodes.length then A6 (o.nodes.getD i Stop.z).seq 1000000001 else 0,first+2*i - 1,decide ((i:Int)<b)⟩
def u4 (o:Order):Nat:=min (max o.nodes.length 1) 64
def iH (o:Order):Int:=2*A6 o.bN.length 500
def pd (o:Order) (base:Int):Int:=1+A6 base (u4 o)
def fitO (o:Order) (base:Int):Order :=
 ⟨A6 o.header 1000000001,fitN o.cU,A6 o.order 1000000001,A6 o.update 1000000001,(List.range' 0 (u4 o)).map (mi o (iH o) (pd o base)),(List.range' 1 (u4 o - 1)).map (Fk o (iH o) (pd o base))⟩
theorem PX (o:Order):1≤u4 o∧u4 o≤64:=by unfold u4; omega
theorem VU (o:Order):0≤iH o∧iH o≤998∧Int.tmod (iH o) 2=0:=by
 have h1:=Zy o.bN.length 500
 have h2:=Zz o.bN.length (n:=500) (by decide)
 unfold iH
 exact ⟨by omega,by omega,even_mod _⟩
theorem ZA (o:Order) (base:Int):1≤pd o base∧pd o base≤u4 o:=by
 have h0:=PX o
 have h1:=Zy base (u4 o)
 have h2:=Zz base (n:=(u4 o:Int)) (by omega)
 unfold pd
 omega
theorem fit_num (o:Order) (i:Nat) (f:Stop→Int):cW (if i<o.nodes.length then A6 (f (o.nodes.getD i Stop.z)) 1000000001 else 0)=true:=by
 split
 ·exact PW _
 ·rfl
theorem fit_steps (o:Order) (first b:Int) (h0:0≤first) (h1:first≤998):∀(m i:Nat),i+m≤64→AE (mi o first b i) ((List.range' (i+1) m).map (Fk o first b)) ((List.range' (i+1) m).map (mi o first b))=true
 | 0,i,_=>rfl
 | m+1,i,h=>by
  have ih:=fit_steps o first b h0 h1 m (i+1) (by omega)
  simp only[List.range'_succ,List.map_cons,AE]
  rw[ih]
  have a1:=fit_num o (i+1) (·.seq)
  have a2:=fit_num o (i+1) (·.node)
  have a3:cW (Fk o first b (i+1)).seq=true:=xm.2 ⟨by show 0≤first+2*((i+1:Nat):Int) - 1; omega,by show first+2*((i+1:Nat):Int) - 1≤_; omega⟩
  have a4:cW (mi o first b (i+1)).seq=true:=xm.2 ⟨by show 0≤first+2*((i+1:Nat):Int); omega,by show first+2*((i+1:Nat):Int)≤_; omega⟩
  have a5:cW (Fk o first b (i+1)).yz=true:=a1
  have a6:cW (mi o first b (i+1)).node=true:=a2
  rw[a3,a4,a5,a6]
  have b1:decide ((Fk o first b (i+1)).seq=(mi o first b i).seq+1)=true:=decide_eq_true (by show first+2*((i+1:Nat):Int) - 1=first+2*(i:Int)+1; omega)
  have b2:decide ((mi o first b (i+1)).seq=(Fk o first b (i+1)).seq+1)=true:=decide_eq_true (by show first+2*((i+1:Nat):Int)=first+2*((i+1:Nat):Int) - 1+1; omega)
  rw[b1,b2]
  have c1:((Fk o first b (i+1)).bP==(mi o first b (i+1)).bP)=true:=beq_self_eq_true _
  rw[c1]
  have c2:(!(mi o first b (i+1)).bP||(mi o first b i).bP)=true:=by
   show (!decide (((i+1:Nat):Int)<b)||decide ((i:Int)<b))=true
   by_cases h:((i+1:Nat):Int)<b
   ·rw[decide_eq_true h,decide_eq_true (show (i:Int)<b by omega)]; rfl
   ·rw[decide_eq_false h]; rfl
  rw[c2]
  rfl
theorem fit_nodes (o:Order) (base:Int):∃m,u4 o=m+1∧(fitO o base).nodes=mi o (iH o) (pd o base) 0::(List.range' 1 m).map (mi o (iH o) (pd o base))∧(fitO o base).bN=(List.range' 1 m).map (Fk o (iH o) (pd o base)):=by
 obtain ⟨h1,h2⟩:=PX o
 refine ⟨u4 o - 1,by omega,?_,rfl⟩
 show (List.range' 0 (u4 o)).map _=_
 obtain ⟨m,hm⟩:∃m,u4 o=m+1:=⟨u4 o - 1,by omega⟩
 rw[hm,List.range'_succ,List.map_cons]
 rfl
theorem fitO_right (o:Order) (base:Int):pE (fitO o base)=true:=by
 obtain ⟨m,hm,e1,e2⟩:=fit_nodes o base
 obtain ⟨h1,h2⟩:=PX o
 obtain ⟨f1,f2,f3⟩:=VU o
 obtain ⟨b1,b2⟩:=ZA o base
 have hs:=fit_steps o (iH o) (pd o base) f1 f2 m 0 (by omega)
 unfold pE
 rw[e1,e2]
 have n1:DL (fitO o base).cU=true:=fitN_ok _
 have n2:cW (fitO o base).header=true:=PW _
 have n3:cW (fitO o base).order=true:=PW _
 have n4:cW (fitO o base).update=true:=PW _
 rw[n1,n2,n3,n4]
 simp only[List.length_map,List.length_range']
 rw[hs,decide_eq_true (show m<64 by omega)]
 have c1:decide (Int.tmod (mi o (iH o) (pd o base) 0).seq 2=0)=true:=decide_eq_true (by
  have:(mi o (iH o) (pd o base) 0).seq=iH o:=by show iH o+2*((0:Nat):Int)=_; omega
  rw[this,f3])
 have c2:(mi o (iH o) (pd o base) 0).bP=true:=decide_eq_true (by omega)
 have c3:cW (mi o (iH o) (pd o base) 0).node=true:=fit_num o 0 (·.node)
 have c4:cW (mi o (iH o) (pd o base) 0).seq=true:=xm.2 ⟨by show 0≤iH o+2*((0:Nat):Int); omega,by show iH o+2*((0:Nat):Int)≤_; omega⟩
 rw[c1,c2,c3,c4]
 rfl
def baseO (o:Order):Int:=((o.nodes.filter (·.bP)).length:Int)
theorem pick_rawI {R:Type} (c n:Int) (hc:xE c) (h0:0<n) (k:Int→Option R) :
  (bif (decide (c<(0:Int)))then (ca (!decide (n=0)) (k (Int.tmod (IntKind.i64.wrap (0 - (IntKind.i64.wrap (c+1)))) n)))else (ca (!decide (n=0)) (k (Int.tmod c n))))=k (A6 c n):=by
 obtain ⟨h1,h2⟩:=hc
 have hz:(!decide (n=0))=true:=by simp; omega
 unfold A6
 by_cases h:c<0
 ·have hd:decide (c<(0:Int))=true:=by simpa using h
  rw[hd,cond_true,aw hz,cz (n:=c+1) (by omega) (by omega),cz (by omega) (by omega),if_pos h,Int.zero_sub]
 ·have hd:decide (c<(0:Int))=false:=by simpa using h
  rw[hd,cond_false,aw hz,if_neg h]
theorem trim_none:∀s:ah,bt s U3 = []↔s.all (U3.contains ·)=true
 | []=>by simp[bt]
 | b::s=>by
  have ih:=trim_none s
  unfold bt at ih ⊢
  rw[List.dropWhile_cons,List.all_cons]
  by_cases h:U3.contains b=true
  ·rw[if_pos h,h,Bool.true_and]
   exact ih
  ·rw[if_neg h,Bool.eq_false_iff.2 h,Bool.false_and]
   simp
theorem trim_name (s:ah):((bt s U3==([]:ah))&&(!(s==([]:ah))&&decide ((s.length:Int)≤16)))=DL s:=by
 have e1:(bt s U3==([]:ah))=s.all (U3.contains ·):=by
  rw[Bool.eq_iff_iff,←trim_none]
  exact beq_iff_eq
 have e2:(s==([]:ah))=s.isEmpty:=by cases s <;> rfl
 have e3:decide ((s.length:Int)≤16)=decide (s.length≤16):=decide_eq_decide.2 (by omega)
 unfold DL
 rw[e1,e2,e3]
def CF (s:ah) (j:Nat):ah:=110::((s.take j).map fitB++s.drop j)
theorem fitSt_get (s:ah) (j:Nat) (h:j<s.length) (d:UInt8):(CF s j).getD (j+1) d=s[j]:=by
 have e:((s.take j).map fitB).length=j:=by rw[List.length_map,List.length_take]; omega
 unfold CF
 rw[List.getD_cons_succ,List.getD_eq_getElem?_getD,List.getElem?_append_right (by omega),e,Nat.sub_self,List.getElem?_drop,Nat.add_zero,List.getElem?_eq_getElem h]
 rfl
theorem fitSt_set (s:ah) (j:Nat) (h:j<s.length):(CF s j).set (j+1) (fitB s[j])=CF s (j+1):=by
 have e:((s.take j).map fitB).length=j:=by rw[List.length_map,List.length_take]; omega
 unfold CF
 rw[List.set_cons_succ,List.set_append_right _ _ (by omega),e,Nat.sub_self,List.drop_eq_getElem_cons h,List.set_cons_zero,List.take_succ_eq_append_getElem h,List.map_append,List.map_singleton,List.append_assoc]
 rfl
theorem PY (s:ah) (j:Nat):(CF s j).length=s.length+1:=by
 unfold CF
 simp only[List.length_cons,List.length_append,List.length_map,List.length_take,List.length_drop]
 omega
theorem fitSt_end (s:ah):CF (s.take 15) (s.take 15).length=fitN s:=by
 unfold CF fitN
 rw[List.take_length,List.drop_length,List.append_nil]
def sumN:List ah→Nat
 | []=>0
 | n::l=>(Pn n).length+2+sumN l
def sumI:List Json→Nat
 | []=>0
 | x::l=>(cS x).length+sumI l
structure Fields (ns:List ah) (is:List Json):Prop where
 len:ns.length=is.length
 uniq:vI [] ns=true
 right:∀x∈is,dM x 2=true
 short:sumN ns+sumI is≤19000
variable {ns:List ah} {is:List Json}
def ZB (o:Order):List Json := [Bl o.header,strV o.cU,Bl o.order,Bl o.update,RX (o.nodes.map Nd),RX (o.bN.map WK)]
structure StepsO (o:Order):Prop where
 first:Int.tmod (o.nodes.getD 0 Stop.z).seq 2=0∧(o.nodes.getD 0 Stop.z).bP=true
 next:∀i,i<o.bN.length→(o.nodes.getD (i+1) Stop.z).seq=(o.bN.getD i aC.Way.z).seq+1∧(o.bN.getD i aC.Way.z).bP=(o.nodes.getD (i+1) Stop.z).bP
theorem uc {α:Type} (b:Bool) (x y:α):(bif !b then x else y)=bif b then y else x:=by cases b <;> rfl
theorem KY {α:Type} [DecidableEq α] (a b:α):(a != b) = !decide (a=b):=by
 by_cases h:a=b <;> simp[h]
theorem W9 {α:Type} [DecidableEq α] (a b:α):(a==b)=decide (a=b):=by
 by_cases h:a=b <;> simp[h]
theorem KZ {i n:Nat} (h:i<n):(decide ((0:Int)≤(i:Int))&&decide ((i:Int)<(n:Int)))=true:=by rw[aM (by omega),aM (by omega)]; rfl
theorem kV (i:Nat):(decide ((0:Int)≤(i:Int))&&true)=true:=by rw[aM (by omega)]; rfl
theorem CG {i n:Nat} (h:i<n) (hn:n≤4000000000000):IntKind.i64.wrap ((i:Int)+1)=((i+1:Nat):Int):=by rw[cz (by omega) (by omega)]; omega
theorem topicName_ok {R:Type} (s:ah) (k:Bool→Option R):topic_Name s k=k (DL s):=by
 unfold topic_Name topic_Name_X
 rw[aw (by decide +kernel),←trim_name s]
 show (bif (bt s U3==([]:ah))then (bif (!(s==([]:ah)))then k (decide ((s.length:Int)≤16))else k false)else k false)=_
 cases (bt s U3==([]:ah)) <;> cases (s==([]:ah)) <;> rfl
theorem num1_ok {R:Type} (n:Int) (k:Bool→Option R):fk n k=k (!cW n):=by
 unfold fk I9 cW
 by_cases h:n<0
 ·rw[aM h,cond_true,bJ (show ¬(0:Int)≤n by omega)]; rfl
 ·rw[bJ h,cond_false,aM (show (0:Int)≤n by omega)]
  by_cases h2:n>1000000000
  ·rw[aM h2,bJ (show ¬n≤1000000000 by omega)]; rfl
  ·rw[bJ h2,aM (show n≤1000000000 by omega)]; rfl
theorem num_loop {R:Type} (l:List Int) (hl:l.length≤1000000) (e0 X:Option R) (e1:Int→Option R) (h1:∀j:Nat,e1 (j:Int)=X):∀(F i:Nat),i≤l.length→l.length - i<F →
  aU F l (l.length:Int) (i:Int) e0 e1=if (l.drop i).all cW then e0 else X:=by
 intro F
 induction F with
 | zero=>intro i _ hF; omega
 | succ F ih =>
  intro i hi hF
  show gC fk (fun x0 x1 x2=>aU F x0 x1 x2 e0 e1) l (l.length:Int) (i:Int) e0 e1=_
  unfold gC
  by_cases h:i<l.length
  ·have hg:l.getD (i:Int).toNat (Ty.aZ (.int .i64))=l[i]:=getD_at h _
   rw[aM (show (i:Int)<(l.length:Int) by omega),cond_true,aw (kV i),hg,num1_ok,uc,CG h (by omega)]
   dsimp only
   rw[ih (i+1) (by omega) (by omega),h1,List.drop_eq_getElem_cons h,List.all_cons]
   cases cW l[i] <;> rfl
  ·rw[bJ (show ¬(i:Int)<(l.length:Int) by omega),cond_false,List.drop_eq_nil_of_le (by omega)]
   rfl
theorem num_ok {R:Type} (l:List Int) (hl:l.length≤1000000) (k:Bool→Option R):fW l k=k (l.all cW):=by
 unfold fW N2 cn kf cH lQ
 refine (num_loop l hl _ (k false) _ (fun j => ?_) _ 0 (by omega) (by omega)).trans ?_
 ·show k (!decide ((j:Int)≥0))=_
  rw[aM (by omega)]; rfl
 ·rw[List.drop_zero]
  cases l.all cW <;> rfl
theorem right_loop {R:Type} (o:Order) (hn:o.nodes.length≤64) (he:o.bN.length+1=o.nodes.length) (k:Bool→Option R):∀(F i:Nat),i≤o.bN.length→o.bN.length - i<F→cW (o.nodes.getD i Stop.z).seq=true →
  cK F o.bN (o.bN.length:Int) (i:Int) o (k true) (fun y=>k y)=k (AE (o.nodes.getD i Stop.z) (o.bN.drop i) (o.nodes.drop (i+1))):=by
 intro F
 induction F with
 | zero=>intro i _ hF; omega
 | succ F ih =>
  intro i hi hF hs
  show vi fW (fun x0 x1 x2 x3=>cK F x0 x1 x2 x3 (k true) (fun y=>k y)) o.bN (o.bN.length:Int) (i:Int) o (k true) (fun y=>k y)=_
  unfold vi
  by_cases h:i<o.bN.length
  ·have h':i+1<o.nodes.length:=by omega
   have hge:o.bN.getD (i:Int).toNat (Ty.aZ .qD)=o.bN[i]:=getD_at h _
   have hgf:o.nodes.getD (i:Int).toNat (Ty.aZ .stop)=o.nodes[i]:=getD_at (by omega) _
   have hgf':o.nodes.getD i Stop.z=o.nodes[i]:=getD_at (by omega) _
   have hgt:o.nodes.getD ((i+1:Nat):Int).toNat (Ty.aZ .stop)=o.nodes[i+1]:=getD_at h' _
   have hgt':o.nodes.getD (i+1) Stop.z=o.nodes[i+1]:=getD_at h' _
   have ih:=ih (i+1) (by omega) (by omega)
   rw[aM (show (i:Int)<(o.bN.length:Int) by omega),cond_true,aw (kV i),aw (KZ (show i<o.nodes.length by omega)),CG h (by omega),aw (KZ h'),hge,hgf,hgt,num_ok _ (by simp)]
   rw[List.drop_eq_getElem_cons h,List.drop_eq_getElem_cons h',hgf']
   rw[hgt']at ih
   rw[hgf']at hs
   generalize o.bN[i]=e at *
   generalize o.nodes[i]=f at *
   generalize o.nodes[i+1]=t at *
   have eA:([e.yz,e.seq,t.node,t.seq]:List Int).all cW=(cW e.yz&&cW e.seq&&cW t.node&&cW t.seq):=by simp only[List.all_cons,List.all_nil,Bool.and_true,Bool.and_assoc]
   simp only[AE,eA]
   cases hA:(cW e.yz&&cW e.seq&&cW t.node&&cW t.seq)with
   | false=>rfl
   | true =>
    simp only[Bool.and_eq_true]at hA
    have b1:=xm.1 hs
    have b2:=xm.1 hA.1.1.2
    rw[Bool.not_true,cond_false,cz (n:=f.seq+1) (by omega) (by omega),cz (n:=e.seq+1) (by omega) (by omega),KY,uc,KY,uc,uc,uc]
    rw[show (fun y:Bool=>k y)=k from rfl]at ih ⊢
    rw[ih hA.2]
    cases decide (e.seq=f.seq+1) <;> cases decide (t.seq=e.seq+1) <;> cases (e.bP==t.bP) <;> cases t.bP <;> cases f.bP <;> rfl
  ·rw[bJ (show ¬(i:Int)<(o.bN.length:Int) by omega),cond_false,List.drop_eq_nil_of_le (by omega),List.drop_eq_nil_of_le (by omega)]
   rfl
theorem JQ {R:Type} (o:Order) (hn:o.nodes.length≤4000000000000) (k:Bool→Option R):bG o k=k (pE o):=by
 unfold bG Jc
 rw[topicName_ok,num_ok _ (by simp)]
 have e3:([o.header,o.order,o.update]:List Int).all cW=(cW o.header&&cW o.order&&cW o.update):=by simp only[List.all_cons,List.all_nil,Bool.and_true,Bool.and_assoc]
 have hr:pE o=(DL o.cU&&(cW o.header&&cW o.order&&cW o.update)&&(match o.nodes with
  | []=>false
  | f::ns=>decide (ns.length<64)&&(decide (Int.tmod f.seq 2=0)&&f.bP)&&(cW f.node&&cW f.seq)&&AE f o.bN ns)):=rfl
 rw[hr,e3]
 cases DL o.cU with
 | false=>rfl
 | true =>
 cases (cW o.header&&cW o.order&&cW o.update)with
 | false=>rfl
 | true =>
 simp only[Bool.not_true,cond_false,Bool.true_and]
 cases hs:o.nodes with
 | nil=>rfl
 | cons f ns =>
  rw[hs]at hn
  simp only[List.length_cons]at hn ⊢
  rw[bJ (show ¬((ns.length+1:Nat):Int)<1 by omega),cond_false]
  by_cases h64:ns.length<64
  rotate_left
  ·rw[aM (show ((ns.length+1:Nat):Int)>64 by omega),bJ h64]
   rfl
  rw[bJ (show ¬((ns.length+1:Nat):Int)>64 by omega),cond_false,aM h64,cz (n:=((ns.length+1:Nat):Int) - 1) (by omega) (by omega),KY,uc]
  by_cases hl:o.bN.length=ns.length
  rotate_left
  ·rw[bJ (show ¬(o.bN.length:Int)=((ns.length+1:Nat):Int) - 1 by omega),cond_false]
   have:AE f o.bN ns=false:=by
    cases hq:AE f o.bN ns with
    | false=>rfl
    | true=>exact (hl (Zu _ _ _ hq).1).elim
   rw[this,Bool.and_false]
  rw[aM (show (o.bN.length:Int)=((ns.length+1:Nat):Int) - 1 by omega),cond_true,aw (aM (by omega)),KY,uc,uc]
  have hg:(f::ns).getD 0 (Ty.aZ .stop)=f:=rfl
  rw[hg,num_ok _ (by simp)]
  have e2:([f.node,f.seq]:List Int).all cW=(cW f.node&&cW f.seq):=by simp only[List.all_cons,List.all_nil,Bool.and_true]
  rw[e2]
  cases hN:(cW f.node&&cW f.seq)with
  | false=>cases decide (Int.tmod f.seq 2=0) <;> cases f.bP <;> rfl
  | true =>
   simp only[Bool.and_eq_true]at hN
   have hL:=right_loop o (by rw[hs]; simp; omega) (by rw[hs]; simp; omega) k (List.length o.bN+Int.natAbs (o.bN.length:Int)+Int.natAbs 0+Order.fu o+64) 0 (by omega) (by omega) (by rw[hs]; exact hN.2)
   rw[hs]at hL
   have hL':=hL
   simp only[List.drop_zero,List.drop_succ_cons]at hL'
   rw[Bool.not_true,cond_false]
   have hL2:cK (List.length o.bN+Int.natAbs (o.bN.length:Int)+Int.natAbs 0+Order.fu o+64) o.bN (o.bN.length:Int) 0 o (k true) (fun Ad=>k Ad)=k (AE f o.bN ns):=hL'
   rw[hL2]
   cases decide (Int.tmod f.seq 2=0) <;> cases f.bP <;> cases AE f o.bN ns <;> rfl
def eqS:List Stop→List Stop→Bool
 | [], []=>true
 | x::l,y::m=>(x.node==y.node&&(x.seq==y.seq&&(x.bP==y.bP&&true)))&&eqS l m
 | _,_=>false
def eqW:List aC.Way→List aC.Way→Bool
 | [], []=>true
 | x::l,y::m=>(x.yz==y.yz&&(x.seq==y.seq&&(x.bP==y.bP&&true)))&&eqW l m
 | _,_=>false
theorem eqS_iff:∀ {a b:List Stop},eqS a b=true↔a=b
 | [], []=>by simp[eqS]
 | x::l,y::m=>by
  obtain ⟨a1,a2,a3⟩:=x
  obtain ⟨b1,b2,b3⟩:=y
  simp[eqS,eqS_iff (a:=l) (b:=m),and_assoc]
 | [],_::_=>by simp[eqS]
 | _::_, []=>by simp[eqS]
theorem eqW_iff:∀ {a b:List aC.Way},eqW a b=true↔a=b
 | [], []=>by simp[eqW]
 | x::l,y::m=>by
  obtain ⟨a1,a2,a3⟩:=x
  obtain ⟨b1,b2,b3⟩:=y
  simp[eqW,eqW_iff (a:=l) (b:=m),and_assoc]
 | [],_::_=>by simp[eqW]
 | _::_, []=>by simp[eqW]
theorem eqS_len {a b:List Stop} (h:a.length≠b.length):eqS a b=false:=Bool.eq_false_iff.2 fun e=>h (by rw[eqS_iff.1 e])
theorem eqW_len {a b:List aC.Way} (h:a.length≠b.length):eqW a b=false:=Bool.eq_false_iff.2 fun e=>h (by rw[eqW_iff.1 e])
def TU (a b:Order):Bool:=a.header==b.header&&(a.cU==b.cU&&(a.order==b.order&&(a.update==b.update&&(eqS a.nodes b.nodes&&eqW a.bN b.bN))))
theorem sameO_iff {a b:Order}:TU a b=true↔a=b:=by
 obtain ⟨a1,a2,a3,a4,a5,a6⟩:=a
 obtain ⟨b1,b2,b3,b4,b5,b6⟩:=b
 simp[TU,eqS_iff,eqW_iff]
theorem R1 (a:Order):TU a a=true:=sameO_iff.2 rfl
theorem eqS_loop {R:Type} (a b:List Stop) (hl:a.length=b.length) (ha:a.length≤1099511627776) (e0:Option R) (e1:Bool→Option R):∀(F i:Nat),i≤a.length→a.length - i<F →
  bu F a b (a.length:Int) (i:Int) e0 e1=bif eqS (a.drop i) (b.drop i)then e0 else e1 false:=by
 intro F
 induction F with
 | zero=>intro i _ hF; omega
 | succ F ih =>
  intro i hi hF
  show j8 (fun x0 x1 x2 x3=>bu F x0 x1 x2 x3 e0 e1) a b (a.length:Int) (i:Int) e0 e1=_
  unfold j8
  by_cases h:i<a.length
  ·have ga:a.getD (i:Int).toNat (Ty.aZ .stop)=a[i]:=getD_at h _
   have gb:b.getD (i:Int).toNat (Ty.aZ .stop)=b[i]:=getD_at (by omega) _
   rw[aM (show (i:Int)<(a.length:Int) by omega),cond_true,aw (kV i),aw (KZ (show i<b.length by omega)),ga,gb,CG h (by omega)]
   dsimp only
   rw[ih (i+1) (by omega) (by omega),List.drop_eq_getElem_cons h,List.drop_eq_getElem_cons (show i<b.length by omega),uc]
   simp only[eqS]
   cases (a[i].node==b[i].node&&(a[i].seq==b[i].seq&&(a[i].bP==b[i].bP&&true))) <;> rfl
  ·rw[bJ (show ¬(i:Int)<(a.length:Int) by omega),cond_false,List.drop_eq_nil_of_le (by omega),List.drop_eq_nil_of_le (by omega)]
   rfl
theorem eqW_loop {R:Type} (a b:List aC.Way) (hl:a.length=b.length) (ha:a.length≤1099511627776) (e0:Option R) (e1:Bool→Option R):∀(F i:Nat),i≤a.length→a.length - i<F →
  bI F a b (a.length:Int) (i:Int) e0 e1=bif eqW (a.drop i) (b.drop i)then e0 else e1 false:=by
 intro F
 induction F with
 | zero=>intro i _ hF; omega
 | succ F ih =>
  intro i hi hF
  show lC (fun x0 x1 x2 x3=>bI F x0 x1 x2 x3 e0 e1) a b (a.length:Int) (i:Int) e0 e1=_
  unfold lC
  by_cases h:i<a.length
  ·have ga:a.getD (i:Int).toNat (Ty.aZ .qD)=a[i]:=getD_at h _
   have gb:b.getD (i:Int).toNat (Ty.aZ .qD)=b[i]:=getD_at (by omega) _
   rw[aM (show (i:Int)<(a.length:Int) by omega),cond_true,aw (kV i),aw (KZ (show i<b.length by omega)),ga,gb,CG h (by omega)]
   dsimp only
   rw[ih (i+1) (by omega) (by omega),List.drop_eq_getElem_cons h,List.drop_eq_getElem_cons (show i<b.length by omega),uc]
   simp only[eqW]
   cases (a[i].yz==b[i].yz&&(a[i].seq==b[i].seq&&(a[i].bP==b[i].bP&&true))) <;> rfl
  ·rw[bJ (show ¬(i:Int)<(a.length:Int) by omega),cond_false,List.drop_eq_nil_of_le (by omega),List.drop_eq_nil_of_le (by omega)]
   rfl
theorem eqS_ok {R:Type} (a b:List Stop) (ha:a.length≤1099511627776) (k:Bool→Option R):dL a b k=k (eqS a b):=by
 unfold dL sP
 rw[KY,uc]
 by_cases hl:a.length=b.length
 ·rw[aM (show (a.length:Int)=(b.length:Int) by omega),cond_true]
  refine (eqS_loop a b hl ha _ _ _ 0 (by omega) (by omega)).trans ?_
  rw[List.drop_zero,List.drop_zero]
  cases eqS a b <;> rfl
 ·rw[bJ (show ¬(a.length:Int)=(b.length:Int) by omega),eqS_len hl]
  rfl
theorem eqW_ok {R:Type} (a b:List aC.Way) (ha:a.length≤1099511627776) (k:Bool→Option R):eF a b k=k (eqW a b):=by
 unfold eF u0
 rw[KY,uc]
 by_cases hl:a.length=b.length
 ·rw[aM (show (a.length:Int)=(b.length:Int) by omega),cond_true]
  refine (eqW_loop a b hl ha _ _ _ 0 (by omega) (by omega)).trans ?_
  rw[List.drop_zero,List.drop_zero]
  cases eqW a b <;> rfl
 ·rw[bJ (show ¬(a.length:Int)=(b.length:Int) by omega),eqW_len hl]
  rfl
theorem orderSame_ok {R:Type} (a b:Order) (ha:a.nodes.length≤1099511627776) (he:a.bN.length≤1099511627776) (k:Bool→Option R):fF a b k=k (TU a b):=by
 unfold fF Mo TU
 simp only[eqS_ok _ _ ha,eqW_ok _ _ he]
 cases (a.header==b.header) <;> cases (a.cU==b.cU) <;> cases (a.order==b.order) <;> cases (a.update==b.update) <;> cases eqS a.nodes b.nodes <;> rfl
theorem base_loop {R:Type} (l:List Stop) (hl:l.length≤1099511627776) (e0:Int→Option R):∀(F i n:Nat),i≤l.length→l.length - i<F→n≤i →
  dj F (n:Int) l (l.length:Int) (i:Int) e0=e0 ((n+((l.drop i).filter (·.bP)).length:Nat):Int):=by
 intro F
 induction F with
 | zero=>intro i n _ hF; omega
 | succ F ih =>
  intro i n hi hF hn
  show xh (fun x0 x1 x2 x3=>dj F x0 x1 x2 x3 e0) (n:Int) l (l.length:Int) (i:Int) e0=_
  unfold xh
  by_cases h:i<l.length
  ·have ga:l.getD (i:Int).toNat (Ty.aZ .stop)=l[i]:=getD_at h _
   rw[aM (show (i:Int)<(l.length:Int) by omega),cond_true,aw (kV i),ga,CG h (by omega),CG (show n<l.length by omega) (by omega)]
   dsimp only
   rw[ih (i+1) (n+1) (by omega) (by omega) (by omega),ih (i+1) n (by omega) (by omega) (by omega),List.drop_eq_getElem_cons h,List.filter_cons]
   cases l[i].bP with
   | false=>rfl
   | true =>
    simp only[cond_true,if_true,List.length_cons]
    congr 1
    omega
  ·rw[bJ (show ¬(i:Int)<(l.length:Int) by omega),cond_false,List.drop_eq_nil_of_le (by omega)]
   rfl
theorem orderBase_ok {R:Type} (o:Order) (hl:o.nodes.length≤1099511627776) (k:Int→Option R):lW o k=k (baseO o):=by
 unfold lW Mr
 refine (base_loop o.nodes hl _ _ 0 0 (by omega) (by omega) (by omega)).trans ?_
 rw[List.drop_zero,Nat.zero_add]
 rfl
theorem w32 (n:Nat):IntKind.u32.wrap (n:Int)=((n % 4294967296:Nat):Int):=by
 show ((n:Int) % 4294967296)=_
 omega
theorem of32 (n:Nat):(BitVec.ofInt IntKind.u32.bits (n:Int)).toNat=n % 4294967296:=by
 rw[BitVec.toNat_ofInt]
 show ((n:Int) % ((4294967296:Nat):Int)).toNat=_
 omega
theorem xor32 (h c:Nat) (hh:h<4294967296) (c8:UInt8) (hc:c=c8.toNat):IntKind.u32.wrap ((BitVec.ofInt IntKind.u32.bits (h:Int) ^^^ BitVec.ofInt IntKind.u32.bits (c:Int)).toNat:Int)=((h ^^^ c8.toNat:Nat):Int):=by
 have h8:=UInt8.toNat_lt c8
 subst hc
 rw[BitVec.toNat_xor,of32,of32,Nat.mod_eq_of_lt hh,Nat.mod_eq_of_lt (by omega),w32,Nat.mod_eq_of_lt (xor_lt hh c8)]
theorem step32 (h:Nat) (hh:h<4294967296) (c:UInt8):IntKind.u32.wrap ((IntKind.u32.wrap ((BitVec.ofInt IntKind.u32.bits (h:Int) ^^^ BitVec.ofInt IntKind.u32.bits (IntKind.u32.wrap (c.toNat:Int))).toNat:Int))*16777619)=((TR h c:Nat):Int):=by
 have h8:=UInt8.toNat_lt c
 rw[w32 c.toNat,Nat.mod_eq_of_lt (by omega),xor32 h c.toNat hh c rfl]
 have e:(((h ^^^ c.toNat:Nat):Int)*16777619)=(((h ^^^ c.toNat)*16777619:Nat):Int):=by rw[Int.natCast_mul]; rfl
 rw[e,w32]
 rfl
theorem sum_loop {R:Type} (s:ah) (hs:s.length≤1099511627785) (e0:Int→Option R):∀(F i h:Nat),i≤s.length→s.length - i<F→h<4294967296→dK F (h:Int) s.length (s.length:Int) (i:Int) (jH s) e0=e0 ((fnvN (s.drop i) h:Nat):Int):=by
 intro F
 induction F with
 | zero=>intro i h _ hF; omega
 | succ F ih =>
  intro i h hi hF hh
  show Cm (fun x0 x1 x2 x3 x4=>dK F x0 x1 x2 x3 x4 e0) (h:Int) s.length (s.length:Int) (i:Int) (jH s) e0=_
  unfold Cm
  by_cases hl:i<s.length
  rotate_left
  ·rw[bJ (show ¬(i:Int)<(s.length:Int) by omega),cond_false,List.drop_eq_nil_of_le (by omega)]
   unfold fnvN
   rw[List.foldl_nil]
  have hw:IntKind.i64.wrap ((i:Int)+1)=((i+1:Nat):Int):=by rw[cz (by omega) (by omega)]; omega
  have hg:(jH s).getD (i:Int).toNat (Ty.aZ (.int .u8))=(s[i].toNat:Int):=by
   have e1:((s.map fun b=>(b.toNat:Int)):List Int).getD i 0=(s[i].toNat:Int):=by
    rw[List.getD_eq_getElem?_getD,List.getElem?_map,List.getElem?_eq_getElem hl]
    rfl
   exact e1
  rw[aM (show (i:Int)<(s.length:Int) by omega),cond_true,aw (by rw[aM (show (0:Int)≤(i:Int) by omega)]; rfl),aw (aM (by rw[Int.toNat_natCast,KM,Hu]; exact hl)),hg,step32 h hh,hw]
  refine (ih (i+1) _ (by omega) (by omega) (Zs h s[i])).trans ?_
  rw[List.drop_eq_getElem_cons hl,fnv_cons]
theorem sum_ok {R:Type} (s:ah) (hs:s.length≤1099511627785) (k:Int→Option R):uC s k=k ((fnvS s:Nat):Int):=by
 have e:uC s k=dK (Int.natAbs 2166136261+Int.natAbs (s.length:Int)+Int.natAbs 0+List.length (jH s)+64) ((2166136261:Nat):Int) s.length (s.length:Int) ((0:Nat):Int) (jH s) (fun y7=>k y7):=rfl
 rw[e,sum_loop s hs _ _ 0 _ (by omega) (by omega) (by decide),List.drop_zero]
 rfl
theorem shr4 (n:Nat):Int.fdiv (n:Int) (2 ^ (min 4 IntKind.u32.bits))=((n / 16:Nat):Int):=by
 show Int.fdiv (n:Int) 16=_
 rw[Int.fdiv_eq_ediv_of_nonneg _ (by decide)]
 omega
theorem and15u (n:Nat):IntKind.u32.wrap ((BitVec.ofInt IntKind.u32.bits (n:Int) &&& BitVec.ofInt IntKind.u32.bits 15).toNat:Int)=((n % 16:Nat):Int):=by
 have h2:(BitVec.ofInt IntKind.u32.bits 15).toNat=15:=by decide
 rw[BitVec.toNat_and,of32,h2]
 have h3:(n % 4294967296) &&& 15=(n % 4294967296) % 16:=Nat.and_two_pow_sub_one_eq_mod _ 4
 rw[h3,w32]
 omega
theorem in16 (n:Nat):(decide ((0:Int)≤((n % 16:Nat):Int))&&decide (((n % 16:Nat):Int)<(16:Int)))=true:=by
 rw[aM (by omega),aM (by omega)]; rfl
theorem seal_ok {R:Type} (s:ah) (hs:s.length≤1099511627776) (k:ah→Option R):eJ s k=k (rN s):=by
 have e:eJ s k=IJ uC s k:=rfl
 rw[e]
 unfold IJ
 rw[sum_ok s (by omega)]
 have hH:=fnv_lt s 2166136261 (by decide)
 unfold rN hex8
 unfold fnvS
 generalize fnvN s 2166136261=H at hH
 simp only[shr4,and15u,in16,ca,cond_true,Int.toNat_natCast]
 rw[aM (show s.length+1≤9223372036854775807 by omega),cond_true,aM (by simp only[List.length_append,List.length_map,List.length_cons,List.length_nil]; omega),cond_true]
 congr 1
 rw[List.append_assoc]
 congr 1
 simp only[List.map_cons,List.map_nil,Int.toNat_natCast,UInt8.ofNat_toNat,List.singleton_append,hxB,hxS,Nat.div_div_eq_div_mul]
theorem last_cases (s:ah):(Ec s 35 = -1∧∀x∈s,x≠35)∨∃i:Nat,∃h:i<s.length,Ec s 35=(i:Int)∧s[i]=35∧∀j (hj:j<s.length),i<j→s[j]≠35:=by
 have GA:∀j (h:j<s.length),(⟨s.toArray⟩:ByteArray).data[j]! = s[j]:=fun j h=>by
  show s.toArray[j]! = s[j]
  rw[getElem!_pos _ _ (by simpa using h)]
  simp
 have rj:(⟨s.toArray⟩:ByteArray).size=s.length:=by show s.toArray.size=_; simp
 have h35:∀x:UInt8,((x.toNat:Int)=((35:UInt8).toNat:Int))↔x=35:=fun x=>by
  constructor
  ·intro h; exact UInt8.toNat_inj.1 (by omega)
  ·rintro rfl; rfl
 unfold Ec
 rcases Go.Lib.lastIndexByte_spec ⟨s.toArray⟩ ((35:UInt8).toNat:Int)with ⟨h1,h2⟩|⟨i,h1,h2,h3,h4⟩
 ·refine .inl ⟨h1,fun x hx => ?_⟩
  obtain ⟨j,hj,rfl⟩:=List.getElem_of_mem hx
  have:=h2 j (by rw[rj]; exact hj)
  rw[GA j hj]at this
  exact fun e=>this ((h35 _).2 e)
 ·rw[rj]at h1
  refine .inr ⟨i,h1,h2,?_,fun j hj AI => ?_⟩
  ·rw[GA i h1]at h3
   exact (h35 _).1 h3
  ·have:=h4 j AI (by rw[rj]; exact hj)
   rw[GA j hj]at this
   exact fun e=>this ((h35 _).2 e)
theorem seal_at (t:ah):∃h:t.length<(rN t).length,(rN t)[t.length]=35∧∀j (hj:j<(rN t).length),t.length<j→(rN t)[j]≠35:=by
 have hl:=PS t
 refine ⟨by omega,?_,fun j hj AI => ?_⟩
 ·simp[rN]
 ·have hm:(rN t)[j]∈hex8 (fnvS t):=by
   obtain ⟨m,rfl⟩:∃m,j=t.length+(m+1):=⟨j - t.length - 1,by omega⟩
   have e:(rN t)[t.length+(m+1)]? = (hex8 (fnvS t))[m]? :=by
    unfold rN
    rw[List.getElem?_append_right (by omega),Nat.add_sub_cancel_left,List.getElem?_cons_succ]
   rw[List.getElem?_eq_getElem hj]at e
   exact List.mem_of_getElem? e.symm
  exact hex8_ne _ _ hm
theorem open_ok {R:Type} (s:ah) (hs:s.length≤1099511627776) (k:ah→Int→Option R):im s k=match Nc s with|some t=>k t 0|none=>k [] 60:=by
 have e:im s k=IK eJ s k:=rfl
 rw[e]
 unfold IK
 rw[aw (aM (by omega))]
 rcases last_cases s with ⟨h1,h2⟩|⟨i,hi,h1,h2,h3⟩
 ·rw[h1]
  have:Nc s=none:=by
   cases ho:Nc s with
   | none=>rfl
   | some t =>
    exfalso
    have e:=open_some ho
    obtain ⟨g1,g2,_⟩:=seal_at t
    exact h2 35 (by rw[e,←g2]; exact List.getElem_mem _) rfl
  rw[this]
  rfl
 ·rw[h1]
  rw[bJ (show ¬(i:Int)<0 by omega),cond_false]
  have c1:(decide ((0:Int)≤(i:Int))&&decide ((i:Int)≤(s.length:Int)))=true:=by rw[aM (by omega),aM (by omega)]; rfl
  have c2:decide ((0:Int)≤(i:Int))=true:=aM (by omega)
  rw[aw c1,aw c2,Int.toNat_natCast,List.drop_zero,Nat.sub_zero,seal_ok _ (by rw[List.length_take]; omega)]
  by_cases hq:rN (s.take i)=s
  ·have b1:(!(rN (s.take i)==s))=false:=by simp[hq]
   have ho:Nc s=some (s.take i):=by rw[←hq,open_seal,hq]
   rw[b1,cond_false,aw c1,aw c2,ho]
  ·have b1:(!(rN (s.take i)==s))=true:=by simpa using hq
   rw[b1,cond_true]
   have ho:Nc s=none:=by
    cases ho:Nc s with
    | none=>rfl
    | some t =>
     exfalso
     have e:=open_some ho
     obtain ⟨g1,g2,g3⟩:=seal_at t
     have hit:i=t.length:=by
      subst e
      rcases Nat.lt_trichotomy i t.length with h|h|h
      ·exact (h3 t.length g1 h g2).elim
      ·exact h
      ·exact (g3 i hi h h2).elim
     apply hq
     rw[e,hit]
     congr 1
     unfold rN
     simp
   rw[ho]
theorem str_ok {R:Type} (s:ah) (k:Json→Option R):uO s k=k (strV s):=rfl
theorem yes_ok {R:Type} (b:Bool) (k:Json→Option R):uP b k=k (WJ b):=by cases b <;> rfl
theorem arr_ok {R:Type} (l:List Json) (hj:Pu.FD (RX l)) (k:Json→Option R):ef l k=k (RX l):=by
 unfold ef Oi
 exact Pu.YG _ hj _
theorem MF {n:Int} (h:cW n=true):Pu.FD (Bl n):=KX _ 2 (Gx h (by omega)) (by simp[Po,Pp,Bl])
theorem jok_yes (b:Bool):Pu.FD (WJ b):=KX _ 2 (right_yes b (by omega)) (by simp[Po,Pp,WJ])
theorem jok_str {s:ah} (h:fU s=true) (hl:s.length≤10000000000):Pu.FD (strV s):=KX _ 2 (right_str h (by omega)) (by simp[Po,Pp,strV,hl])
theorem jok_arr {l:List Json} (hl:l.length≤1099511627776) (h:∀x∈l,Pu.FD x):Pu.FD (RX l) :=
 Pu.jok_mk (by unfold xE; decide) (by unfold xE; decide) (by unfold xE; decide) (by simp) (by simp) (by simp) hl h
theorem jok_part {n:ah} (hn:n=KT∨n=KU) {a b:Int} (ha:cW a=true) (hb:cW b=true) (r:Bool):Pu.FD (KW n a b r):=by
 refine Pu.jok_mk (by unfold xE; decide) (by unfold xE; decide) (by unfold xE; decide) (by simp) (by simp) (fun s hs => ?_) (by simp) (fun y hy => ?_)
 ·simp only[List.mem_cons,List.not_mem_nil,or_false]at hs
  rcases hs with rfl|rfl|rfl
  ·rcases hn with rfl|rfl <;> decide
  ·decide
  ·decide
 ·simp only[List.mem_cons,List.not_mem_nil,or_false]at hy
  rcases hy with rfl|rfl|rfl
  ·exact MF ha
  ·exact MF hb
  ·exact jok_yes r
theorem mk_part {n:ah} (hn:n=KT∨n=KU) (x y z:Json):Pu.mk [n,KV,NC] [x,y,z] [] []=([n,KV,NC], [x,y,z]):=by
 rcases hn with rfl|rfl <;> rfl
theorem part_ok {R:Type} {n:ah} (hn:n=KT∨n=KU) {a b:Int} (ha:cW a=true) (hb:cW b=true) (r:Bool) (k:Json→Option R):gF n a b r k=k (KW n a b r):=by
 unfold gF Lx
 rw[Zx ha,Zx hb,yes_ok]
 refine (Pu.make_eq _ _ (by simp) (fun y hy => ?_) _).trans ?_
 ·simp only[List.mem_cons,List.not_mem_nil,or_false]at hy
  rcases hy with rfl|rfl|rfl
  ·exact MF ha
  ·exact MF hb
  ·exact jok_yes r
 ·have e:=mk_part hn (Bl a) (Bl b) (WJ r)
  show k ⟨7,⟨0,0⟩, [],(Pu.mk [n,KV,NC] [Bl a,Bl b,WJ r] [] []).1,(Pu.mk [n,KV,NC] [Bl a,Bl b,WJ r] [] []).2⟩=_
  rw[e]
  rfl
theorem eachS_loop {R:Type} (l:List Stop) (hl:l.length≤1000) (hk:∀x∈l,U4 x) (e0:List Json→Int→Int→Int→ah→Option R):∀(F i:Nat) (acc:List Json),i≤l.length→l.length - i<F→acc.length≤i →
  bC F acc l (l.length:Int) (i:Int) 0 0 0 [] e0=e0 (acc++(l.drop i).map Nd) 0 0 0 []:=by
 intro F
 induction F with
 | zero=>intro i acc _ hF; omega
 | succ F ih =>
  intro i acc hi hF hacc
  show kr fO (fun x0 x1 x2 x3 x4 x5 x6 x7=>bC F x0 x1 x2 x3 x4 x5 x6 x7 e0) acc l (l.length:Int) (i:Int) 0 0 0 [] e0=_
  unfold kr
  by_cases h:i<l.length
  ·have ga:l.getD (i:Int).toNat (Ty.aZ .stop)=l[i]:=getD_at h _
   have hp:∀k:Json→Option R,fO l[i] k=k (Nd l[i]):=fun k=>part_ok (.inl rfl) (hk _ (List.getElem_mem h)).1 (hk _ (List.getElem_mem h)).2 _ k
   rw[aM (show (i:Int)<(l.length:Int) by omega),cond_true,aw (kV i),ga,hp,aw (aM (by omega)),CG h (by omega)]
   dsimp only
   rw[ih (i+1) _ (by omega) (by omega) (by simp; omega),List.drop_eq_getElem_cons h,List.map_cons,List.append_assoc]
   rfl
  ·rw[bJ (show ¬(i:Int)<(l.length:Int) by omega),cond_false,List.drop_eq_nil_of_le (by omega),List.map_nil,List.append_nil]
theorem eachW_loop {R:Type} (l:List aC.Way) (hl:l.length≤1000) (hk:∀x∈l,wayOk x) (e0:List Json→Int→Int→Int→ah→Option R):∀(F i:Nat) (acc:List Json),i≤l.length→l.length - i<F→acc.length≤i →
  bH F acc l (l.length:Int) (i:Int) 0 0 0 [] e0=e0 (acc++(l.drop i).map WK) 0 0 0 []:=by
 intro F
 induction F with
 | zero=>intro i acc _ hF; omega
 | succ F ih =>
  intro i acc hi hF hacc
  show lu fP (fun x0 x1 x2 x3 x4 x5 x6 x7=>bH F x0 x1 x2 x3 x4 x5 x6 x7 e0) acc l (l.length:Int) (i:Int) 0 0 0 [] e0=_
  unfold lu
  by_cases h:i<l.length
  ·have ga:l.getD (i:Int).toNat (Ty.aZ .qD)=l[i]:=getD_at h _
   have hp:∀k:Json→Option R,fP l[i] k=k (WK l[i]):=fun k=>part_ok (.inr rfl) (hk _ (List.getElem_mem h)).1 (hk _ (List.getElem_mem h)).2 _ k
   rw[aM (show (i:Int)<(l.length:Int) by omega),cond_true,aw (kV i),ga,hp,aw (aM (by omega)),CG h (by omega)]
   dsimp only
   rw[ih (i+1) _ (by omega) (by omega) (by simp; omega),List.drop_eq_getElem_cons h,List.map_cons,List.append_assoc]
   rfl
  ·rw[bJ (show ¬(i:Int)<(l.length:Int) by omega),cond_false,List.drop_eq_nil_of_le (by omega),List.map_nil,List.append_nil]
theorem jok_stops {l:List Stop} (hl:l.length≤1000) (hk:∀x∈l,U4 x):Pu.FD (RX (l.map Nd)):=jok_arr (by simp; omega) fun x hx=>by
 obtain ⟨y,hy,rfl⟩:=List.mem_map.1 hx
 exact jok_part (.inl rfl) (hk y hy).1 (hk y hy).2 _
theorem jok_ways {l:List aC.Way} (hl:l.length≤1000) (hk:∀x∈l,wayOk x):Pu.FD (RX (l.map WK)):=jok_arr (by simp; omega) fun x hx=>by
 obtain ⟨y,hy,rfl⟩:=List.mem_map.1 hx
 exact jok_part (.inr rfl) (hk y hy).1 (hk y hy).2 _
theorem eachS_ok {R:Type} (l:List Stop) (hl:l.length≤1000) (hk:∀x∈l,U4 x) (k:Json→Option R):dU l k=k (RX (l.map Nd)):=by
 unfold dU tE
 refine (eachS_loop l hl hk _ _ 0 [] (by omega) (by omega) (by simp)).trans ?_
 rw[List.drop_zero,List.nil_append]
 exact arr_ok _ (jok_stops hl hk) _
theorem eachW_ok {R:Type} (l:List aC.Way) (hl:l.length≤1000) (hk:∀x∈l,wayOk x) (k:Json→Option R):ez l k=k (RX (l.map WK)):=by
 unfold ez uW
 refine (eachW_loop l hl hk _ _ 0 [] (by omega) (by omega) (by simp)).trans ?_
 rw[List.drop_zero,List.nil_append]
 exact arr_ok _ (jok_ways hl hk) _
theorem mk_order (a b c d e f:Json):Pu.mk RZ [a,b,c,d,e,f] [] []=(RZ, [a,b,c,d,e,f]):=by kernel_rfl
theorem items_jok {o:Order} (hk:OkO o):∀y∈ZB o,Pu.FD y:=by
 obtain ⟨hv,hv2⟩:=R0 hk.name
 obtain ⟨m1,m2,m3⟩:=hk.many
 intro y hy
 simp only[ZB,List.mem_cons,List.not_mem_nil,or_false]at hy
 rcases hy with rfl|rfl|rfl|rfl|rfl|rfl
 ·exact MF hk.header
 ·exact jok_str hv (by omega)
 ·exact MF hk.order
 ·exact MF hk.update
 ·exact jok_stops (by omega) hk.nodes
 ·exact jok_ways (by omega) hk.bN
theorem order_lenJ {o:Order} (hk:OkO o):Po (ub o)=true:=(PR _ 1 (Ps hk) (by have:=PV hk; omega)).1
theorem lay_ok {R:Type} (o:Order) (hn:o.nodes.length≤4000000000000) (k:ah→Int→Option R):gq o k=if pE o then k (rN (cS (ub o))) 0 else k [] 1:=by
 unfold gq O5
 rw[JQ o hn]
 cases h:pE o with
 | false=>rfl
 | true =>
  have hk:=PT h
  obtain ⟨m1,m2,m3⟩:=hk.many
  have hlen:=PV hk
  rw[Bool.not_true,cond_false,Zx hk.header,str_ok,Zx hk.order,Zx hk.update,eachS_ok _ (by omega) hk.nodes,eachW_ok _ (by omega) hk.bN]
  refine (Pu.make_eq RZ (ZB o) (by decide) (items_jok hk) _).trans ?_
  have e:Pu.mk RZ (ZB o) [] []=(RZ,ZB o):=mk_order _ _ _ _ _ _
  rw[e]
  refine (print_json (ub o) (Ps hk) (order_lenJ hk) (by omega) _).trans ?_
  rw[seal_ok _ (by omega)]
  rfl
theorem c_sHeader:([104,101,97,100,101,114,73,100]:ah)=Gn:=rfl
theorem c_sSerial:([115,101,114,105,97,108,78,117,109,98,101,114]:ah)=zK:=rfl
theorem c_sOrder:([111,114,100,101,114,73,100]:ah)=MC:=rfl
theorem c_sUpdate:([111,114,100,101,114,85,112,100,97,116,101,73,100]:ah)=Gp:=rfl
theorem c_sNodes:([110,111,100,101,115]:ah)=MD:=rfl
theorem c_sEdges:([101,100,103,101,115]:ah)=RY:=rfl
def tN (v:Json) (s:ah) (b:Bool):Int×Bool:=match vJ v s with|some n=>(n,b)|none=>(0,true)
def tF (v:Json) (s:ah) (b:Bool):Bool×Bool:=match JP v s with|some n=>(n,b)|none=>(false,true)
def tL (v:Json) (s:ah) (b:Bool):List Json×Bool:=match Fj v s with|some n=>(n,b)|none=>([],true)
theorem tN_t (v:Json) (s:ah):(tN v s true).2=true:=by unfold tN; split <;> rfl
theorem tF_t (v:Json) (s:ah):(tF v s true).2=true:=by unfold tF; split <;> rfl
theorem tL_t (v:Json) (s:ah):(tL v s true).2=true:=by unfold tL; split <;> rfl
theorem MG {R:Type} (v:Json) (hv:Pu.FD v) (s:ah) (b:Bool) (k:Int→Bool→Option R):aO v s b k=k (tN v s b).1 (tN v s b).2:=by
 unfold aO tR
 simp only[Json.eta]
 rw[Pu.Num_eq v hv]
 unfold tN vJ
 cases (Pu.Wp v s).bind Pu.YH <;> cases b <;> rfl
theorem tflag_ok {R:Type} (v:Json) (hv:Pu.FD v) (s:ah) (b:Bool) (k:Bool→Bool→Option R):bf v s b k=k (tF v s b).1 (tF v s b).2:=by
 unfold bf sM
 simp only[Json.eta]
 rw[Pu.Flag_eq v hv]
 unfold tF JP
 cases (Pu.Wp v s).bind Pu.YI <;> cases b <;> rfl
theorem tlist_ok {R:Type} (v:Json) (hv:Pu.FD v) (s:ah) (b:Bool) (k:List Json→Bool→Option R):bF v s b k=k (tL v s b).1 (tL v s b).2:=by
 unfold bF sC
 simp only[Json.eta]
 rw[Pu.List_eq v hv]
 unfold tL Fj
 cases (Pu.Wp v s).bind Pu.listF <;> cases b <;> rfl
theorem list_jok {v:Json} (hv:Pu.FD v) {s:ah} {l:List Json} (h:Fj v s=some l):l.length≤1099511627776∧∀x∈l,Pu.FD x:=by
 unfold Fj at h
 cases hq:Pu.Wp v s with
 | none=>rw[hq]at h; cases h
 | some x =>
  rw[hq,Option.bind_some]at h
  have hx:=Pu.at7_ok hv hq
  unfold Pu.listF at h
  split at h
  ·cases h; exact ⟨hx.items,fun y hy=>hx.item hy⟩
  ·cases h
theorem tL_jok {v:Json} (hv:Pu.FD v) (s:ah) (b:Bool):(tL v s b).1.length≤1099511627776∧∀x∈(tL v s b).1,Pu.FD x:=by
 unfold tL
 split
 ·rename_i h; exact list_jok hv h
 ·simp
theorem text_get {v:Json} (hv:Pu.FD v) (s:ah):∃(x:ah) (b:Bool),(∀ {R:Type} (k:ah→Bool→Option R),fB v s k=k x b)∧Fi v s=if b then some x else none:=by
 cases hq:Fi v s with
 | none=>exact ⟨[],false,fun k=>by rw[Pu.Text_eq v hv]; unfold Fi at hq; rw[hq],rfl⟩
 | some x=>exact ⟨x,true,fun k=>by rw[Pu.Text_eq v hv]; unfold Fi at hq; rw[hq],rfl⟩
def goS:List Json→Bool→List Stop→Bool×List Stop
 | [],b,acc=>(b,acc)
 | x::l,b,acc=>goS l (tF x NC (tN x KV (tN x KT b).2).2).2 (acc ++ [⟨(tN x KT b).1,(tN x KV (tN x KT b).2).1,(tF x NC (tN x KV (tN x KT b).2).2).1⟩])
def goW:List Json→Bool→List aC.Way→Bool×List aC.Way
 | [],b,acc=>(b,acc)
 | x::l,b,acc=>goW l (tF x NC (tN x KV (tN x KU b).2).2).2 (acc ++ [⟨(tN x KU b).1,(tN x KV (tN x KU b).2).1,(tF x NC (tN x KV (tN x KU b).2).2).1⟩])
theorem TV:∀(l:List Json) (acc:List Stop),(goS l true acc).1=true
 | [],_=>rfl
 | x::l,acc=>by simp only[goS,tN_t,tF_t]; exact TV l _
theorem Q2:∀(l:List Json) (acc:List aC.Way),(goW l true acc).1=true
 | [],_=>rfl
 | x::l,acc=>by simp only[goW,tN_t,tF_t]; exact Q2 l _
theorem MH {v:Json} {s:ah} (h:vJ v s=none) (b:Bool):tN v s b=(0,true):=by unfold tN; rw[h]
theorem xn {v:Json} {s:ah} {n:Int} (h:vJ v s=some n) (b:Bool):tN v s b=(n,b):=by unfold tN; rw[h]
theorem tF_none {v:Json} {s:ah} (h:JP v s=none) (b:Bool):tF v s b=(false,true):=by unfold tF; rw[h]
theorem tF_some {v:Json} {s:ah} {n:Bool} (h:JP v s=some n) (b:Bool):tF v s b=(n,b):=by unfold tF; rw[h]
theorem tL_none {v:Json} {s:ah} (h:Fj v s=none) (b:Bool):tL v s b=([],true):=by unfold tL; rw[h]
theorem tL_some {v:Json} {s:ah} {n:List Json} (h:Fj v s=some n) (b:Bool):tL v s b=(n,b):=by unfold tL; rw[h]
theorem Gy {α:Type} {f:Json→Option α} {x:Json} {l:List Json} (h:f x=none):ME f (x::l)=none:=by
 unfold ME
 rw[h]
theorem allT_some {α:Type} {f:Json→Option α} {x:Json} {l:List Json} {y:α} (h:f x=some y):ME f (x::l)=(ME f l).map (y :: ·):=by
 rw[ME,h]
 cases ME f l <;> rfl
theorem goS_ok:∀(l:List Json) (acc:List Stop),match ME IY l with|some ss=>goS l false acc=(false,acc++ss)|none=>(goS l false acc).1=true
 | [],acc=>by simp[ME,goS]
 | x::l,acc=>by
  have ih:=goS_ok l
  cases h1:vJ x KT with
  | none =>
   have e:IY x=none:=by unfold IY; rw[h1]
   rw[Gy e]
   simp only[goS,MH h1,tN_t,tF_t]
   exact TV _ _
  | some a =>
  cases h2:vJ x KV with
  | none =>
   have e:IY x=none:=by unfold IY; rw[h1,h2]
   rw[Gy e]
   simp only[goS,xn h1,MH h2,tF_t]
   exact TV _ _
  | some b =>
  cases h3:JP x NC with
  | none =>
   have e:IY x=none:=by unfold IY; rw[h1,h2,h3]
   rw[Gy e]
   simp only[goS,xn h1,xn h2,tF_none h3]
   exact TV _ _
  | some r =>
   have e:IY x=some ⟨a,b,r⟩:=by unfold IY; rw[h1,h2,h3]
   rw[allT_some e]
   simp only[goS,xn h1,xn h2,tF_some h3]
   have:=ih (acc ++ [⟨a,b,r⟩])
   cases hA:ME IY l with
   | none=>rw[hA]at this; exact this
   | some ss=>rw[hA]at this; simpa [List.append_assoc]using this
theorem goS_len:∀(l:List Json) (b:Bool) (acc:List Stop),(goS l b acc).2.length=acc.length+l.length
 | [],_,_=>rfl
 | x::l,b,acc=>by
  simp only[goS]
  rw[goS_len l]
  simp only[List.length_append,List.length_cons,List.length_nil]
  omega
theorem goW_ok:∀(l:List Json) (acc:List aC.Way),match ME TS l with|some ss=>goW l false acc=(false,acc++ss)|none=>(goW l false acc).1=true
 | [],acc=>by simp[ME,goW]
 | x::l,acc=>by
  have ih:=goW_ok l
  cases h1:vJ x KU with
  | none =>
   have e:TS x=none:=by unfold TS; rw[h1]
   rw[Gy e]
   simp only[goW,MH h1,tN_t,tF_t]
   exact Q2 _ _
  | some a =>
  cases h2:vJ x KV with
  | none =>
   have e:TS x=none:=by unfold TS; rw[h1,h2]
   rw[Gy e]
   simp only[goW,xn h1,MH h2,tF_t]
   exact Q2 _ _
  | some b =>
  cases h3:JP x NC with
  | none =>
   have e:TS x=none:=by unfold TS; rw[h1,h2,h3]
   rw[Gy e]
   simp only[goW,xn h1,xn h2,tF_none h3]
   exact Q2 _ _
  | some r =>
   have e:TS x=some ⟨a,b,r⟩:=by unfold TS; rw[h1,h2,h3]
   rw[allT_some e]
   simp only[goW,xn h1,xn h2,tF_some h3]
   have:=ih (acc ++ [⟨a,b,r⟩])
   cases hA:ME TS l with
   | none=>rw[hA]at this; exact this
   | some ss=>rw[hA]at this; simpa [List.append_assoc]using this
theorem takeS_loop {R:Type} (ok:Bool) (l:List Json) (hl:l.length≤1099511627776) (hj:∀x∈l,Pu.FD x) (v:Json) (h:Int) (s:ah) (n u:Int) (e0:Bool→Int→ah→Int→Int→Json→Bool→Int→ah→Int→Int→List Stop→Option R):∀(F i:Nat) (b:Bool) (acc:List Stop),i≤l.length→l.length - i<F→acc.length≤i →
  cj F ok l (l.length:Int) (i:Int) 0 [] 0 0 v b h s n u acc e0=e0 ok 0 [] 0 0 v (goS (l.drop i) b acc).1 h s n u (goS (l.drop i) b acc).2:=by
 intro F
 induction F with
 | zero=>intro i b acc _ hF; omega
 | succ F ih =>
  intro i b acc hi hF hacc
  show vC _ _ (fun x0 x1 x2 x3 x4 x5 x6 x7 x8 x9 Un Ni CI HC Lp=>cj F x0 x1 x2 x3 x4 x5 x6 x7 x8 x9 Un Ni CI HC Lp e0) ok l (l.length:Int) (i:Int) 0 [] 0 0 v b h s n u acc e0=_
  unfold vC
  by_cases hi2:i<l.length
  ·have ga:l.getD (i:Int).toNat (Ty.aZ .json)=l[i]:=getD_at hi2 _
   have hx:=hj _ (List.getElem_mem hi2)
   rw[aM (show (i:Int)<(l.length:Int) by omega),cond_true,aw (kV i),ga]
   simp only[Json.eta]
   rw[MG _ hx,MG _ hx,tflag_ok _ hx,aw (aM (by omega)),CG hi2 (by omega)]
   rw[ih (i+1) _ _ (by omega) (by omega) (by simp; omega),List.drop_eq_getElem_cons hi2]
   rfl
  ·rw[bJ (show ¬(i:Int)<(l.length:Int) by omega),cond_false,List.drop_eq_nil_of_le (by omega)]
   simp only[Json.eta]
   rfl
theorem takeW_loop {R:Type} (ok:Bool) (l:List Json) (hl:l.length≤1099511627776) (hj:∀x∈l,Pu.FD x) (h:Int) (s:ah) (n u:Int) (ss:List Stop) (e0:Bool→Int→ah→Int→Int→Bool→Int→ah→Int→Int→List Stop→List aC.Way→Option R):∀(F i:Nat) (b:Bool) (acc:List aC.Way),i≤l.length→l.length - i<F→acc.length≤i →
  ck F ok l (l.length:Int) (i:Int) 0 [] 0 0 b h s n u ss acc e0=e0 ok 0 [] 0 0 (goW (l.drop i) b acc).1 h s n u ss (goW (l.drop i) b acc).2:=by
 intro F
 induction F with
 | zero=>intro i b acc _ hF; omega
 | succ F ih =>
  intro i b acc hi hF hacc
  show vD _ _ (fun x0 x1 x2 x3 x4 x5 x6 x7 x8 x9 Un Ni CI HC Lp=>ck F x0 x1 x2 x3 x4 x5 x6 x7 x8 x9 Un Ni CI HC Lp e0) ok l (l.length:Int) (i:Int) 0 [] 0 0 b h s n u ss acc e0=_
  unfold vD
  by_cases hi2:i<l.length
  ·have ga:l.getD (i:Int).toNat (Ty.aZ .json)=l[i]:=getD_at hi2 _
   have hx:=hj _ (List.getElem_mem hi2)
   rw[aM (show (i:Int)<(l.length:Int) by omega),cond_true,aw (kV i),ga]
   simp only[Json.eta]
   rw[MG _ hx,MG _ hx,tflag_ok _ hx,aw (aM (by omega)),CG hi2 (by omega)]
   rw[ih (i+1) _ _ (by omega) (by omega) (by simp; omega),List.drop_eq_getElem_cons hi2]
   rfl
  ·rw[bJ (show ¬(i:Int)<(l.length:Int) by omega),cond_false,List.drop_eq_nil_of_le (by omega)]
   rfl
def outO {R:Type} (k:Order→Int→Option R):Except Int Order→Option R
 | .ok o=>k o 0
 | .error e=>k ⟨0, [],0,0, [], []⟩ e
theorem take_ok {R:Type} (s:ah) (hs:s.length≤1099511627776) (k:Order→Int→Option R):fY s k=outO k (takeO s):=by
 unfold fY Mi takeO
 rw[open_ok s hs]
 cases Nc s with
 | none=>rfl
 | some t =>
 show fA t _=_
 rw[jparse_ok]
 by_cases he:(td t).2.1=0
 rotate_left
 ·have c:((td t).2.1 != 0)=true:=by simpa using he
  rw[c,cond_true]
  simp only[if_pos he,ne_eq,not_true_eq_false,not_false_eq_true,he,if_true]
  rfl
 have c:((td t).2.1 != 0)=false:=by simpa using he
 rw[c,cond_false]
 have hv:=parse_jok he
 simp only[he,ne_eq,not_true_eq_false,if_false]
 generalize (td t).1=v at hv ⊢
 obtain ⟨nm,okb,hT,hTs⟩:=text_get hv zK
 simp only[Json.eta,c_sHeader,c_sSerial,c_sOrder,c_sUpdate,c_sNodes,c_sEdges]
 refine (hT _).trans ?_
 rw[MG v hv,MG v hv,MG v hv,tlist_ok v hv]
 have hN:=tL_jok hv MD (tN v Gp (tN v MC (tN v Gn false).2).2).2
 refine (takeS_loop okb _ hN.1 hN.2 v _ nm _ _ _ _ 0 _ [] (by omega) (by omega) (by simp)).trans ?_
 rw[tlist_ok v hv]
 generalize hGS:goS ((tL v MD (tN v Gp (tN v MC (tN v Gn false).2).2).2).1.drop 0) (tL v MD (tN v Gp (tN v MC (tN v Gn false).2).2).2).2 []=GS
 have hE:=tL_jok hv RY GS.1
 refine (takeW_loop okb _ hE.1 hE.2 _ nm _ _ _ _ _ 0 _ [] (by omega) (by omega) (by simp)).trans ?_
 rw[List.drop_zero]at hGS ⊢
 have hlen:GS.2.length≤4000000000000:=by
  rw[←hGS,goS_len]
  have:=hN.1
  simp only[List.length_nil]
  omega
 rw[JQ _ hlen]
 have dead:∀ {b:Bool} {x y:Option R},b=true→(bif b then x else y)=x:=fun e=>by rw[e]; rfl
 unfold orderT
 cases h1:vJ v Gn with
 | none =>
  refine (dead ?_).trans rfl
  rw[←hGS]
  simp only[MH h1,tN_t,tL_t,TV,Q2]
 | some a1 =>
 cases h2:vJ v MC with
 | none =>
  refine (dead ?_).trans ?_
  ·rw[←hGS]
   simp only[MH h2,tN_t,tL_t,TV,Q2]
  ·cases Fi v zK <;> rfl
 | some a2 =>
 cases h3:vJ v Gp with
 | none =>
  refine (dead ?_).trans ?_
  ·rw[←hGS]
   simp only[MH h3,tN_t,tL_t,TV,Q2]
  ·cases Fi v zK <;> rfl
 | some a3 =>
 cases h4:Fj v MD with
 | none =>
  refine (dead ?_).trans ?_
  ·rw[←hGS]
   simp only[tL_none h4,tN_t,tL_t,TV,Q2]
  ·cases Fi v zK <;> rfl
 | some a4 =>
 cases h5:Fj v RY with
 | none =>
  refine (dead ?_).trans ?_
  ·simp only[tL_none h5,tN_t,tL_t,TV,Q2]
  ·cases Fi v zK <;> rfl
 | some a5 =>
 simp only[xn h1,xn h2,xn h3,tL_some h4]at hGS ⊢
 have hS:=goS_ok a4 []
 cases h6:ME IY a4 with
 | none =>
  rw[h6]at hS
  refine (dead ?_).trans ?_
  ·rw[←hGS,tL_some h5,hS]
   exact Q2 _ _
  ·cases Fi v zK <;> simp only[h6] <;> rfl
 | some ss =>
 rw[h6]at hS
 simp only[List.nil_append]at hS
 rw[hS]at hGS
 subst hGS
 simp only[tL_some h5]
 have hW:=goW_ok a5 []
 cases h7:ME TS a5 with
 | none =>
  rw[h7]at hW
  refine (dead hW).trans ?_
  cases Fi v zK <;> simp only[h6,h7] <;> rfl
 | some ws =>
 rw[h7]at hW
 simp only[List.nil_append]at hW
 rw[hW,hTs]
 cases okb with
 | false=>rfl
 | true =>
  simp only[cond_false,Bool.not_true,if_true,h6,h7]
  cases pE ⟨a1,nm,a2,a3,ss,ws⟩ <;> rfl
theorem R2 {R:Type} (c n:Int) (hc:xE c) (h0:0<n) (k:Int→Option R):er c n k=k (A6 c n):=pick_rawI c n hc h0 k
theorem zs_getD (l:ah) (i:Nat) (d:Int) (h:i<l.length):(zs l).getD i d=((l.getD i 0).toNat:Int):=by
 rw[getD_at (by rw[Hu]; exact h),getD_at h,List.getElem_map]
theorem zs_set (l:ah) (i:Nat) (b:UInt8):(zs l).set i (b.toNat:Int)=zs (l.set i b):=by
 unfold zs
 rw[List.map_set]
theorem fitB_at (b:UInt8):((([97,98,99,120,121,122,65,66,67,88,89,90,48,49,56,57,95,46,58,45]:ah).getD (Int.tmod (IntKind.i64.wrap (b.toNat:Int)) 20).toNat 0).toNat:Int)=((fitB b).toNat:Int)∧0≤Int.tmod (IntKind.i64.wrap (b.toNat:Int)) 20∧Int.tmod (IntKind.i64.wrap (b.toNat:Int)) 20<20:=by
 have h8:=UInt8.toNat_lt b
 have e:Int.tmod (b.toNat:Int) 20=((b.toNat % 20:Nat):Int):=by
  rw[Int.tmod_eq_emod_of_nonneg (by omega)]
  omega
 rw[cz (by omega) (by omega),e]
 exact ⟨rfl,by omega,by omega⟩
theorem fit07_loop {R:Type} (s:ah) (hs:s.length≤15) (e0:Nat→List Int→Option R):∀(F j:Nat),j≤s.length→s.length - j<F →
  dw F (s.length+1) ((j+1:Nat):Int) (zs (CF s j)) e0=e0 (s.length+1) (zs (CF s s.length)):=by
 intro F
 induction F with
 | zero=>intro j _ hF; omega
 | succ F ih =>
  intro j hj hF
  show zH (fun x0 x1 x2=>dw F x0 x1 x2 e0) (s.length+1) ((j+1:Nat):Int) (zs (CF s j)) e0=_
  unfold zH
  by_cases h:j<s.length
  ·have hl:(zs (CF s j)).length=s.length+1:=by rw[Hu,PY]
   have hg:(zs (CF s j)).getD ((j+1:Nat):Int).toNat (Ty.aZ (.int .u8))=(s[j].toNat:Int):=by
    refine (zs_getD _ (j+1) _ (by rw[PY]; omega)).trans ?_
    rw[fitSt_get s j h]
   obtain ⟨f1,f2,f3⟩:=fitB_at s[j]
   have hset:(zs (CF s j)).set ((j+1:Nat):Int).toNat ((fitB s[j]).toNat:Int)=zs (CF s (j+1)):=by
    rw[Int.toNat_natCast,zs_set,fitSt_set s j h]
   have c1:decide (((j+1:Nat):Int)<((s.length+1:Nat):Int))=true:=aM (by omega)
   have c2:(decide ((0:Int)≤((j+1:Nat):Int))&&true)=true:=kV _
   have c3:decide (((j+1:Nat):Int).toNat<(zs (CF s j)).length)=true:=aM (by rw[hl,Int.toNat_natCast]; omega)
   rw[c1,cond_true,aw c2,aw c3,hg,f1,aw (by rw[aM f2,aM f3]; rfl),aw c2,aw c3,hset,CG (show j+1<s.length+1 by omega) (by omega)]
   exact ih (j+1) (by omega) (by omega)
  ·have e:j=s.length:=by omega
   rw[bJ (show ¬((j+1:Nat):Int)<((s.length+1:Nat):Int) by omega),cond_false,e]
theorem fit07 {R:Type} (s:ah) (hs:s.length≤1099511627776) (k:ah→Option R):kY s k=k (fitN s):=by
 unfold kY Pe
 have hm:(min (s.length:Int) 15)=((min s.length 15:Nat):Int):=by omega
 have ht:(s.drop 0).take ((min (s.length:Int) 15).toNat - 0)=s.take 15:=by
  rw[hm,List.drop_zero,Int.toNat_natCast,Nat.sub_zero]
  rcases Nat.le_total s.length 15 with h|h
  ·rw[Nat.min_eq_left h,List.take_length,List.take_of_length_le h]
  ·rw[Nat.min_eq_right h]
 rw[aw (by rw[hm,aM (by omega),aM (by omega)]; rfl),aw (by rw[hm]; exact aM (by omega)),ht]
 have hl:(s.take 15).length≤15:=by rw[List.length_take]; omega
 rw[aw (aM (by omega))]
 have e0:([110]:ah)++s.take 15=CF (s.take 15) 0:=by simp[CF]
 rw[e0,PY]
 refine (fit07_loop (s.take 15) hl _ _ 0 (by omega) (by rw[KM,Hu,PY]; omega)).trans ?_
 rw[fitSt_end]
 show k (vM (zs (fitN s)))=_
 rw[vH]
theorem rsameS_loop {R:Type} (a b:Order) (hl:a.nodes.length=b.nodes.length) (ha:a.nodes.length≤1099511627776) (e0:Order→Order→Option R) (e1:Bool→Order→Order→Option R):∀(F i:Nat),i≤a.nodes.length→a.nodes.length - i<F →
  cw F (i:Int) a b e0 e1=bif eqS (a.nodes.drop i) (b.nodes.drop i)then e0 a b else e1 false a b:=by
 intro F
 induction F with
 | zero=>intro i _ hF; omega
 | succ F ih =>
  intro i hi hF
  show xk (fun x0 x1 x2=>cw F x0 x1 x2 e0 e1) (i:Int) a b e0 e1=_
  unfold xk
  by_cases h:i<a.nodes.length
  ·have ga:a.nodes.getD (i:Int).toNat (Ty.aZ .stop)=a.nodes[i]:=getD_at h _
   have gb:b.nodes.getD (i:Int).toNat (Ty.aZ .stop)=b.nodes[i]:=getD_at (by omega) _
   rw[aM (show (i:Int)<(a.nodes.length:Int) by omega),cond_true,aw (kV i),aw (KZ (show i<b.nodes.length by omega)),ga,gb,CG h (by omega)]
   dsimp only
   rw[ih (i+1) (by omega) (by omega),List.drop_eq_getElem_cons h,List.drop_eq_getElem_cons (show i<b.nodes.length by omega),uc]
   simp only[eqS]
   cases (a.nodes[i].node==b.nodes[i].node&&(a.nodes[i].seq==b.nodes[i].seq&&(a.nodes[i].bP==b.nodes[i].bP&&true))) <;> rfl
  ·rw[bJ (show ¬(i:Int)<(a.nodes.length:Int) by omega),cond_false,List.drop_eq_nil_of_le (by omega),List.drop_eq_nil_of_le (by omega)]
   rfl
theorem rsameW_loop {R:Type} (a b:Order) (hl:a.bN.length=b.bN.length) (ha:a.bN.length≤1099511627776) (e0:Option R) (e1:Bool→Option R):∀(F i:Nat),i≤a.bN.length→a.bN.length - i<F →
  cx F (i:Int) a b e0 e1=bif eqW (a.bN.drop i) (b.bN.drop i)then e0 else e1 false:=by
 intro F
 induction F with
 | zero=>intro i _ hF; omega
 | succ F ih =>
  intro i hi hF
  show xl (fun x0 x1 x2=>cx F x0 x1 x2 e0 e1) (i:Int) a b e0 e1=_
  unfold xl
  by_cases h:i<a.bN.length
  ·have ga:a.bN.getD (i:Int).toNat (Ty.aZ .qD)=a.bN[i]:=getD_at h _
   have gb:b.bN.getD (i:Int).toNat (Ty.aZ .qD)=b.bN[i]:=getD_at (by omega) _
   rw[aM (show (i:Int)<(a.bN.length:Int) by omega),cond_true,aw (kV i),aw (KZ (show i<b.bN.length by omega)),ga,gb,CG h (by omega)]
   dsimp only
   rw[ih (i+1) (by omega) (by omega),List.drop_eq_getElem_cons h,List.drop_eq_getElem_cons (show i<b.bN.length by omega),uc]
   simp only[eqW]
   cases (a.bN[i].yz==b.bN[i].yz&&(a.bN[i].seq==b.bN[i].seq&&(a.bN[i].bP==b.bN[i].bP&&true))) <;> rfl
  ·rw[bJ (show ¬(i:Int)<(a.bN.length:Int) by omega),cond_false,List.drop_eq_nil_of_le (by omega),List.drop_eq_nil_of_le (by omega)]
   rfl
theorem rsame_ok {R:Type} (a b:Order) (ha:a.nodes.length≤1099511627776) (he:a.bN.length≤1099511627776) (k:Bool→Option R):nn a b k=k (TU a b):=by
 unfold nn Mw TU
 have hb:∀(x y:Int),(x != y) = !(x==y):=fun x y=>rfl
 simp only[hb,uc]
 cases (a.header==b.header)with
 | false=>rfl
 | true =>
 cases (a.cU==b.cU)with
 | false=>rfl
 | true =>
 cases (a.order==b.order)with
 | false=>rfl
 | true =>
 cases (a.update==b.update)with
 | false=>rfl
 | true =>
 simp only[cond_true,Bool.true_and]
 by_cases h1:a.nodes.length=b.nodes.length
 rotate_left
 ·have c:((a.nodes.length:Int)==(b.nodes.length:Int))=false:=by rw[W9]; exact bJ (by omega)
  rw[c,eqS_len h1]
  rfl
 have c1:((a.nodes.length:Int)==(b.nodes.length:Int))=true:=by rw[W9]; exact aM (by omega)
 rw[c1,cond_true]
 by_cases h2:a.bN.length=b.bN.length
 rotate_left
 ·have c:((a.bN.length:Int)==(b.bN.length:Int))=false:=by rw[W9]; exact bJ (by omega)
  rw[c,eqW_len h2,Bool.and_false]
  rfl
 have c2:((a.bN.length:Int)==(b.bN.length:Int))=true:=by rw[W9]; exact aM (by omega)
 rw[c2,cond_true]
 refine (rsameS_loop a b h1 ha _ _ _ 0 (by omega) (by unfold Order.fu; omega)).trans ?_
 rw[List.drop_zero,List.drop_zero]
 cases eqS a.nodes b.nodes with
 | false=>rfl
 | true =>
  refine (rsameW_loop a b h2 he _ _ _ 0 (by omega) (by unfold Order.fu; omega)).trans ?_
  rw[List.drop_zero,List.drop_zero]
  cases eqW a.bN b.bN <;> rfl
structure RawO (o:Order):Prop where
 header:xE o.header
 order:xE o.order
 update:xE o.update
 name:o.cU.length≤1099511627776
 many:o.nodes.length≤1099511627776∧o.bN.length≤1099511627776
 node:∀x∈o.nodes,xE x.node∧xE x.seq
theorem fit08_loop {R:Type} (o:Order) (ho:RawO o) (first b:Int) (h0:0≤first) (h1:first≤998) (n:Nat) (hn:n≤64) (hd:Int) (ve:ah) (od up:Int) (e0:Int→ah→Int→Int→Int→ah→Int→Int→List Stop→List aC.Way→Option R):∀(F i:Nat) (ns:List Stop) (es:List aC.Way),i≤n→n - i<F→ns.length≤i→es.length≤i →
  dn F first (n:Int) b (i:Int) o 0 [] 0 0 hd ve od up ns es e0=e0 0 [] 0 0 hd ve od up (ns++(List.range' i (n - i)).map (mi o first b)) (es++(List.range' (max i 1) (n - max i 1)).map (Fk o first b)):=by
 intro F
 induction F with
 | zero=>intro i ns es _ hF; omega
 | succ F ih =>
  intro i ns es hi hF Rh hes
  show zJ _ (fun x0 x1 x2 x3 x4 x5 x6 x7 x8 x9 Un Ni CI HC Lp=>dn F x0 x1 x2 x3 x4 x5 x6 x7 x8 x9 Un Ni CI HC Lp e0) first (n:Int) b (i:Int) o 0 [] 0 0 hd ve od up ns es e0=_
  unfold zJ
  by_cases h:i<n
  rotate_left
  ·rw[bJ (show ¬(i:Int)<(n:Int) by omega),cond_false,show n - i=0 by omega,show n - max i 1=0 by omega]
   simp
  rw[aM (show (i:Int)<(n:Int) by omega),cond_true]
  have w1:IntKind.i64.wrap (2*(i:Int))=2*(i:Int):=cz (by omega) (by omega)
  have w2:IntKind.i64.wrap (first+2*(i:Int))=first+2*(i:Int):=cz (by omega) (by omega)
  have w3:IntKind.i64.wrap (first+2*(i:Int) - 1)=first+2*(i:Int) - 1:=cz (by omega) (by omega)
  have hw:=CG h (by omega)
  have Nf:decide ((i:Int)>0)=decide (0<i):=decide_eq_decide.2 (by omega)
  -- what the place holds
  have hnode:mi o first b i=⟨if i<o.nodes.length then A6 (o.nodes.getD i Stop.z).node 1000000001 else 0,first+2*i,decide ((i:Int)<b)⟩:=rfl
  have hway:Fk o first b i=⟨if i<o.nodes.length then A6 (o.nodes.getD i Stop.z).seq 1000000001 else 0,first+2*i - 1,decide ((i:Int)<b)⟩:=rfl
  have tail:∀(ns':List Stop) (es':List aC.Way),ns'=ns ++ [mi o first b i]→es'=(if 0<i then es ++ [Fk o first b i]else es) →
    dn F first (n:Int) b ((i+1:Nat):Int) o 0 [] 0 0 hd ve od up ns' es' e0=e0 0 [] 0 0 hd ve od up (ns++(List.range' i (n - i)).map (mi o first b)) (es++(List.range' (max i 1) (n - max i 1)).map (Fk o first b)):=by
   intro ns' es' e1 e2
   subst e1
   subst e2
   rw[ih (i+1) _ _ (by omega) (by omega) (by simp; omega) (by split <;> first|omega|(rw[List.length_append]; simp only[List.length_singleton]; omega))]
   have r1:n - i=(n - (i+1))+1:=by omega
   rw[r1,List.range'_succ,List.map_cons,List.append_assoc]
   congr 1
   by_cases hz:0<i
   ·rw[if_pos hz,show max (i+1) 1=i+1 by omega,show max i 1=i by omega,show n - i=(n - (i+1))+1 by omega,List.range'_succ,List.map_cons,List.append_assoc]
    rfl
   ·rw[if_neg hz,show max (i+1) 1=max i 1 by omega]
  by_cases hin:i<o.nodes.length
  ·have ga:o.nodes.getD (i:Int).toNat (Ty.aZ .stop)=o.nodes.getD i Stop.z:=rfl
   have hx:o.nodes.getD i Stop.z∈o.nodes:=by rw[getD_at hin]; exact List.getElem_mem hin
   have hi64:=ho.node _ hx
   rw[aM (show (i:Int)<(o.nodes.length:Int) by omega),cond_true,aw (kV i),ga,R2 _ _ hi64.1 (by omega),aw (kV i),R2 _ _ hi64.2 (by omega),w1,w2,w3,hw,Nf]
   rw[if_pos hin]at hnode hway
   by_cases hz:0<i
   ·rw[aM hz,cond_true,aw (aM (by omega)),aw (aM (by omega))]
    exact tail _ _ (by rw[hnode]) (by rw[if_pos hz,hway])
   ·rw[bJ hz,cond_false,aw (aM (by omega))]
    exact tail _ _ (by rw[hnode]) (by rw[if_neg hz])
  ·rw[bJ (show ¬(i:Int)<(o.nodes.length:Int) by omega),cond_false,w1,w2,w3,hw,Nf]
   rw[if_neg hin]at hnode hway
   by_cases hz:0<i
   ·rw[aM hz,cond_true,aw (aM (by omega)),aw (aM (by omega))]
    exact tail _ _ (by rw[hnode]) (by rw[if_pos hz,hway])
   ·rw[bJ hz,cond_false,aw (aM (by omega))]
    exact tail _ _ (by rw[hnode]) (by rw[if_neg hz])
theorem fit08 {R:Type} (o:Order) (ho:RawO o) (base:Int) (hb:xE base) (k:Order→Option R):sS o base k=k (fitO o base):=by
 obtain ⟨m1,m2⟩:=ho.many
 have hL:=PX o
 have hm:min (max (o.nodes.length:Int) 1) 64=(u4 o:Int):=by unfold u4; omega
 unfold sS Ph
 rw[R2 _ _ ho.header (by omega),fit07 _ ho.name,R2 _ _ ho.order (by omega),R2 _ _ ho.update (by omega),R2 _ _ (by unfold xE; omega) (by omega),hm,R2 _ _ hb (by omega)]
 have hF:=VU o
 have hB:=ZA o base
 have w1:IntKind.i64.wrap (2*A6 (o.bN.length:Int) 500)=iH o:=cz (by unfold iH at hF; omega) (by unfold iH at hF; omega)
 have w2:IntKind.i64.wrap (1+A6 base (u4 o:Int))=pd o base:=cz (by unfold pd at hB; omega) (by unfold pd at hB; omega)
 rw[w1,w2]
 refine (fit08_loop o ho (iH o) (pd o base) hF.1 hF.2.1 (u4 o) hL.2 _ _ _ _ _ _ 0 [] [] (by omega) (by omega) (by simp) (by simp)).trans ?_
 unfold fitO
 simp only[List.nil_append]
 rfl
end Go.Proofs.YtidfokedcnhahaaGreatDoor
/-
 Functions of the program as pure Lean functions, and the ties; printed by wip/tools/emit.py.
-/
set_option maxRecDepth 100000
namespace Go.Proofs.YtidfokedcnhahaaGreatDoor
open Go Go.aC
variable {R:Type}
end Go.Proofs.YtidfokedcnhahaaGreatDoor
/-
 Functions of the program as pure Lean functions, and the ties; printed by wip/tools/emit.py.
-/
set_option maxRecDepth 100000
namespace Go.Proofs.YtidfokedcnhahaaGreatDoor
open Go Go.aC
variable {R:Type}
/-! ### humpyard/humpyardlaw08.OrderBack -/
abbrev AF (R:Type):Type:=Order→Int→(Bool→Option R)→Option R
abbrev vK:List cM := [.agg [.int .i64, .str, .int .i64, .int .i64, .sl .stop, .sl .qD], .leaf (.int .i64)]
abbrev vL:List aW := []
def AG (fn:AF R):k9 R vK vL:=fun x y k=>fn (⟨x.1.1,x.1.2.1,x.1.2.2.1,x.1.2.2.2.1,x.1.2.2.2.2.1,x.1.2.2.2.2.2.1⟩:Order) x.2.1 (fun q0=>k (.bool q0) [])
def TW (fn:AF R):=aI vK vL (AG fn)
section
variable (sS:Gi R) (mz:Cs R) (nn:D6 R) (gq:Cn R) (bG:oG R) (fF:zp R) (fY:zn R)
def IZ:List (oi R) := [(18,true,(VN sS ax)),(17,true,(QV mz ax)),(24,true,(TB nn ax)),(19,true,(O4 gq ax)),(21,true,(yG bG ax)),(23,true,(Mn fF ax)),(29,true,(Mh fY ax))]
def CH (x1:Order) (x2:Int) (k0:Bool→Option R):Option R :=
 mz (fun y3=>sS x1 x2 (fun y4=>gq y4 (fun y5 y6=>fY y5 (fun y7 y8=>bif y3 then (bG y4 (fun y9=>bif y9 then (bif (y6==0)then (bif (y8==0)then (fF y4 y7 (fun uf=>bif uf then (nn y4 y7 (fun vO=>k0 vO))else (k0 false)))else (k0 false))else (k0 false))else (k0 false)))else (k0 false)))))
theorem R3:dC (R:=R) tt (IZ sS mz nn gq bG fF fY) rP false Tryz.f4 vK vL (AG (CH sS mz nn gq bG fF fY)):=fun x y k=>by kernel_rfl
end
theorem Qf:ct (R:=R) Tryz.prog (IZ (R:=R) sS mz nn gq bG fF fY) := .c (YV R) <| .c (UP R) <| .c (WD R) <| .c (O6 R) <| .c (wW R) <| .c (M4 R) <| .c (M3 R) <| .n
def uJ:AF R:=fun x1 x2 k0=>CH sS mz nn gq bG fF fY x1 x2 k0
theorem Pt (R:Type):k6 Tryz.prog 4 (TW (uJ (R:=R))):=br TT mixed (Qf (R:=R)) rfl rfl rfl rfl cb (R3 sS mz nn gq bG fF fY)
end Go.Proofs.YtidfokedcnhahaaGreatDoor
set_option maxRecDepth 100000
namespace Go.Proofs.YtidfokedcnhahaaGreatDoor
open Go Go.aC Go.Lib
theorem rawO_of {o:Order} (h:∀c∈Ty.cells .order o,Small 1048576 c):RawO o:=by
 have hn:=(h (.sl .stop o.nodes .no) (by simp[Ty.cells])).EO
 have he:=(h (.sl .qD o.bN .no) (by simp[Ty.cells])).EO
 exact {
  header:=qo.1 (h (.int .i64 o.header) (by simp[Ty.cells])).fj
  order:=qo.1 (h (.int .i64 o.order) (by simp[Ty.cells])).fj
  update:=qo.1 (h (.int .i64 o.update) (by simp[Ty.cells])).fj
  name:=by have:=(h (.str o.cU) (by simp[Ty.cells])).iq; omega
  many:=⟨Nat.le_trans (show o.nodes.length≤1048576 from hn.1) (by omega),Nat.le_trans (show o.bN.length≤1048576 from he.1) (by omega)⟩
  node:=fun x hx=>⟨qo.1 (hn.2 x hx (.int .i64 x.node) (by simp[Ty.cells])).fj,qo.1 (hn.2 x hx (.int .i64 x.seq) (by simp[Ty.cells])).fj⟩ }
theorem small_int {n:Int} (h:Small 1048576 (.int .i64 n)):xE n:=qo.1 h.fj
theorem AH {o:Order} (h:pE o=true):o.nodes.length≤64∧o.bN.length≤64:=by
 obtain ⟨m1,m2,m3⟩:=(PT h).many
 omega
theorem text_len {o:Order} (h:pE o=true):(rN (cS (ub o))).length≤20009:=by
 have:=PV (PT h)
 rw[PS]
 omega
theorem lay_r {R:Type} {o:Order} (h:pE o=true) (k:ah→Int→Option R):gq o k=k (rN (cS (ub o))) 0:=by
 rw[lay_ok o (by have:=AH h; omega),h,if_pos rfl]
theorem take_r {R:Type} {o:Order} (h:pE o=true) (k:Order→Int→Option R):fY (rN (cS (ub o))) k=k o 0:=by
 rw[take_ok _ (by have:=text_len h; omega),take_lay h]
 rfl
theorem right_r {R:Type} {o:Order} (h:pE o=true) (k:Bool→Option R):bG o k=k true:=by
 rw[JQ o (by have:=AH h; omega),h]
theorem same_r {R:Type} {o:Order} (h:pE o=true) (p:Order) (k:Bool→Option R):fF o p k=k (TU o p) :=
 orderSame_ok o p (by have:=AH h; omega) (by have:=AH h; omega) k
theorem rsame_r {R:Type} {o:Order} (h:pE o=true) (p:Order) (k:Bool→Option R):nn o p k=k (TU o p) :=
 rsame_ok o p (by have:=AH h; omega) (by have:=AH h; omega) k
theorem base_r {R:Type} {o:Order} (h:pE o=true) (k:Int→Option R):lW o k=k (baseO o):=orderBase_ok o (by have:=AH h; omega) k
def exO:Order:=⟨1, [118,49],2,0, [⟨3,0,true⟩], []⟩
theorem K2:pE exO=true:=by decide +kernel
theorem ZC:cS (ub exO) = [123,34,104,101,97,100,101,114,73,100,34,58,49,44,34,115,101,114,105,97,108,78,117,109,98,101,114,34,58,34,118,49,34,44,34,111,114,100,101,114,73,100,34,58,50,44,34,111,114,100,101,114,85,112,100,97,116,101,73,100,34,58,48,44,34,110,111,100,101,115,34,58,91,123,34,110,111,100,101,73,100,34,58,51,44,34,115,101,113,117,101,110,99,101,73,100,34,58,48,44,34,114,101,108,101,97,115,101,100,34,58,116,114,117,101,125,93,44,34,101,100,103,101,115,34,58,91,93,125]:=by kernel_rfl
theorem awake08 {R:Type} (k:Bool→Option R):mz k=k true:=by
 unfold mz JO
 show gq exO _=_
 rw[lay_r K2,take_r K2,lay_ok _ (by decide)]
 have h0:pE ⟨0, [],0,0, [], []⟩=false:=by decide +kernel
 rw[h0]
 have b0:((0:Int)==0)=true:=rfl
 have b1:((1:Int)==1)=true:=rfl
 simp only[Bool.false_eq_true,if_false,b0,b1,cond_true]
 rw[←ZC,seal_ok _ (by rw[ZC]; decide),beq_self_eq_true,cond_true,aM (show (((rN (cS (ub exO))).length:Int)>100) by rw[PS,ZC]; decide),cond_true]
 show fF exO exO _=_
 rw[same_r K2,R1,cond_true]
 show lW exO _=_
 rw[base_r K2]
 have hb:(baseO exO==1)=true:=by decide +kernel
 rw[hb,cond_true]
 exact right_r K2 _
theorem ZD {R:Type} (o:Order) (base:Int) (ho:∀c∈Ty.cells .order o,Small 1048576 c) (hb:Small 1048576 (.int .i64 base)) (k:Bool→Option R):uJ o base k=k true:=by
 have hr:=fitO_right o base
 unfold uJ CH
 rw[awake08,fit08 o (rawO_of ho) base (small_int hb),lay_r hr,take_r hr,cond_true,right_r hr]
 have b0:((0:Int)==0)=true:=rfl
 simp only[b0,cond_true]
 rw[same_r hr,R1,cond_true,rsame_r hr,R1]
end Go.Proofs.YtidfokedcnhahaaGreatDoor
end
