/-
  OrderApart, part 9 of 10.
-/
import Derived.Test.YtidfokedcnhahaaGreatDoorOrderApartB8
set_option linter.unusedSimpArgs false
set_option linter.unnecessarySimpa false
set_option linter.unusedVariables false
set_option linter.unusedSectionVars false
noncomputable section
set_option maxRecDepth 100000
namespace Go.Proofs.YtidfokedcnhahaaGreatDoor
open Go Go.aC Go.Lib
def stripN:Nat→Int→Int→fv
 | 0,n,e=>⟨n,e⟩
 | f+1,n,e=>if Int.tmod n 10=0 then stripN f (Int.tdiv n 10) (e+1)else ⟨n,e⟩
def dI (n:Int):fv:=if n=0 then ⟨0,0⟩else stripN 20 n 0
theorem V0:∀(f:Nat) (n e:Int),n≠0→n.natAbs<10 ^ f→∃(u:Int) (j:Nat),Int.tmod u 10≠0∧n=u*10 ^ j∧stripN f n e=⟨u,e+j⟩
 | 0,n,e,h0,h=>by omega
 | f+1,n,e,h0,h=>by
  simp only[stripN]
  by_cases hm:Int.tmod n 10=0
  ·rw[if_pos hm]
   obtain ⟨c,rfl⟩:=Int.dvd_of_tmod_eq_zero hm
   have hc:Int.tdiv (10*c) 10=c:=Int.mul_tdiv_cancel_left c (by decide)
   rw[hc]
   have hp:10 ^ (f+1)=10*10 ^ f:=by rw[Nat.pow_succ,Nat.mul_comm]
   obtain ⟨u,j,h1,h2,h3⟩:=V0 f c (e+1) (by rintro rfl; exact h0 rfl) (by rw[hp]at h; omega)
   refine ⟨u,j+1,h1,by rw[h2,Int.pow_succ,Int.mul_comm,Int.mul_assoc],?_⟩
   rw[h3]
   congr 1
   omega
  ·rw[if_neg hm]
   exact ⟨n,0,hm,by simp,by simp⟩
def cY (n:Int):Bool:=decide (0≤n)&&decide (n≤1000000000)
theorem xn {n:Int}:cY n=true↔0≤n∧n≤1000000000:=by unfold cY; rw[Bool.and_eq_true,decide_eq_true_eq,decide_eq_true_eq]
theorem Zx {n:Int} (h:cY n=true):(n=0∧dI n=⟨0,0⟩)∨∃(u:Int) (j:Nat),Int.tmod u 10≠0∧n=u*10 ^ j∧dI n=⟨u,j⟩∧j≤9∧1≤u∧u≤1000000000:=by
 obtain ⟨h1,h2⟩:=xn.1 h
 by_cases h0:n=0
 ·exact .inl ⟨h0,by unfold dI; rw[if_pos h0]⟩
 ·have e20:(10:Nat) ^ 20=100000000000000000000:=rfl
  obtain ⟨u,j,g1,g2,g3⟩:=V0 20 n 0 h0 (by omega)
  have hu:1≤u:=by
   have hp:(0:Int)<10 ^ j:=Int.pow_pos (by decide)
   rcases Int.lt_or_le 0 u with h|h
   ·omega
   ·have:u*10 ^ j≤0:=Int.mul_nonpos_of_nonpos_of_nonneg h (by omega)
    omega
  have hj:j≤9:=by
   rcases Nat.lt_or_ge 9 j with h|h
   ·exfalso
    have hp:(10:Int) ^ 10≤10 ^ j:=by
     have:=Nat.pow_le_pow_right (n:=10) (by decide) (show 10≤j by omega)
     exact_mod_cast this
    have e10:(10:Int) ^ 10=10000000000:=by decide
    have hm:1*(10:Int) ^ j≤u*10 ^ j:=Int.mul_le_mul_of_nonneg_right hu (by omega)
    omega
   ·exact h
  have hle:u≤n:=by
   have hp:(1:Int)≤10 ^ j:=PR j
   have:u*1≤u*10 ^ j:=Int.mul_le_mul_of_nonneg_left hp (by omega)
   omega
  refine .inr ⟨u,j,g1,g2,?_,hj,hu,by omega⟩
  unfold dI
  rw[if_neg h0,g3]
  congr 1
  omega
theorem dI_fm {n:Int} (h:cY n=true):Fm (dI n):=by
 rcases Zx h with ⟨_,e⟩|⟨u,j,g1,_,e,g4,g5,g6⟩
 ·rw[e]; exact Fm.mk0
 ·rw[e]; exact .inr ⟨g1,by show -1000000000000000≤u; omega,by show u≤1000000000000000; omega,by show -9≤(j:Int); omega,by show (j:Int)≤9; omega⟩
theorem shiftN_eq:∀(j:Nat) (u:Int),0≤u→u*10 ^ j≤1000000000→Pu.Ma j u=some (u*10 ^ j)
 | 0,u,_,_=>by simp[Pu.Ma]
 | j+1,u,h0,h=>by
  have e:u*10 ^ (j+1)=(u*10)*10 ^ j:=by rw[Int.pow_succ,Int.mul_assoc,Int.mul_comm 10]
  have hp:(1:Int)≤10 ^ j:=PR j
  have hle:u*10≤u*10 ^ (j+1):=by
   rw[e]
   have:u*10*1≤u*10*10 ^ j:=Int.mul_le_mul_of_nonneg_left hp (by omega)
   omega
  simp only[Pu.Ma]
  rw[if_pos (by omega),shiftN_eq j (u*10) (by omega) (by rw[←e]; exact h),e]
theorem decInt_dI {n:Int} (h:cY n=true):Pu.tA (dI n)=some n:=by
 obtain ⟨h1,h2⟩:=xn.1 h
 rcases Zx h with ⟨rfl,e⟩|⟨u,j,g1,g2,e,g4,g5,g6⟩
 ·rw[e]; rfl
 ·rw[e]
  unfold Pu.tA
  have hr:Pu.RJ ⟨u,j⟩=true:=by
   unfold Pu.RJ
   rw[if_neg (by show ¬u=0; omega)]
   simp only[Bool.and_eq_true,decide_eq_true_eq]
   refine ⟨⟨g1,by omega,by omega⟩,by omega,by omega⟩
  rw[if_pos ⟨hr,by show (0:Int)≤(j:Int); omega⟩]
  show Pu.Ma ((j:Int)).toNat u=some n
  rw[Int.toNat_natCast,shiftN_eq j u (by omega) (by omega),←g2]
def Bn (n:Int):Json:=⟨4,dI n, [], [], []⟩
def strV (s:ah):Json:=⟨5,⟨0,0⟩,s, [], []⟩
def WR (b:Bool):Json:=⟨if b then 3 else 2,⟨0,0⟩, [], [], []⟩
def R6 (l:List Json):Json:=⟨6,⟨0,0⟩, [], [],l⟩
def objV (ns:List ah) (is:List Json):Json:=⟨7,⟨0,0⟩, [],ns,is⟩
theorem PA {n:Int} (h:cY n=true):Pu.YO (Bn n)=some n:=by
 unfold Pu.YO Bn
 rw[if_pos rfl]
 exact decInt_dI h
theorem flagF_yes (b:Bool):Pu.YP (WR b)=some b:=by cases b <;> rfl
theorem Gz {n:Int} (h:cY n=true) {d:Int} (hd:d≤16):dO (Bn n) d=true:=eW.2 (.num _ d hd (dI_fm h))
theorem right_str {s:ah} (h:fW s=true) {d:Int} (hd:d≤16):dO (strV s) d=true:=eW.2 (.text _ d hd h)
theorem right_yes (b:Bool) {d:Int} (hd:d≤16):dO (WR b) d=true:=by cases b <;> exact eW.2 (.name _ d hd (by simp))
theorem right_arr {l:List Json} {d:Int} (h:dQ l (d+1)=true) (hd:d≤16):dO (R6 l) d=true:=eW.2 (.arr _ d hd h)
theorem right_obj {ns:List ah} {is:List Json} {d:Int} (hl:ns.length=is.length) (hu:vM [] ns=true) (h:dQ is (d+1)=true) (hd:d≤16):dO (objV ns is) d=true:=eW.2 (.obj _ _ d hd hl hu h)
theorem TX {n:Int} (h:cY n=true):(cF (Bn n)).length≤40:=by
 have e:cF (Bn n)=AI (dI n):=by unfold Bn; simp only[cF]; rfl
 have e2:AI (dI n)=WN (dI n):=by unfold AI; rw[I1.2 (dI_fm h)]; rfl
 rw[e,e2]
 exact prt_len _ (dI_fm h)
theorem len_yes (b:Bool):(cF (WR b)).length≤5:=by cases b <;> decide
theorem len_str (s:ah):(cF (strV s)).length≤6*s.length+2:=by
 have e:cF (strV s)=Pw s:=by unfold strV; simp only[cF]; rfl
 rw[e]
 exact PY s
theorem len_arr (l:List Json):(cF (R6 l)).length=(jc l true).length+2:=by
 have e:cF (R6 l)=91::(jc l true ++ [93]):=by unfold R6; simp only[cF]; rfl
 rw[e]; simp
theorem len_obj (ns:List ah) (l:List Json):(cF (objV ns l)).length=(jb ns l true).length+2:=by
 have e:cF (objV ns l)=123::(jb ns l true ++ [125]):=by unfold objV; simp only[cF]; rfl
 rw[e]; simp
theorem Zy:∀(l:List Json) (b:Bool) (m:Nat),(∀x∈l,(cF x).length≤m)→(jc l b).length≤l.length*(m+1)
 | [],_,_,_=>by simp[jc]
 | x::l,b,m,h=>by
  have h1:=h x (by simp)
  have h2:=Zy l false m fun y hy=>h y (by simp[hy])
  have:(if b=true then ([]:ah)else [44]).length≤1:=by cases b <;> simp
  simp only[jc,List.length_append,List.length_cons,Nat.succ_mul]
  omega
end Go.Proofs.YtidfokedcnhahaaGreatDoor
set_option maxRecDepth 100000
namespace Go.Proofs.YtidfokedcnhahaaGreatDoor
open Go Go.aC
def TY (h:Nat) (c:UInt8):Nat:=((h ^^^ c.toNat)*16777619) % 4294967296
theorem Zz (h:Nat) (c:UInt8):TY h c<4294967296:=by
 unfold TY
 exact Nat.mod_lt _ (by decide)
def fnvN (s:ah) (h:Nat):Nat:=s.foldl TY h
def fnvS (s:ah):Nat:=fnvN s 2166136261
theorem fnv_cons (c:UInt8) (s:ah) (h:Nat):fnvN (c::s) h=fnvN s (TY h c):=by
 unfold fnvN
 rw[List.foldl_cons]
theorem fnv_lt (s:ah):∀(h:Nat),h<4294967296→fnvN s h<4294967296:=by
 induction s with
 | nil=>intro h hh; unfold fnvN; rw[List.foldl_nil]; exact hh
 | cons c s ih=>intro h _; rw[fnv_cons]; exact ih _ (Zz h c)
theorem xor_lt {h:Nat} (hh:h<4294967296) (c:UInt8):h ^^^ c.toNat<4294967296:=by
 have:=UInt8.toNat_lt c
 exact Nat.xor_lt_two_pow (n:=32) hh (by omega)
def hxS:ah := [48,49,50,51,52,53,54,55,56,57,97,98,99,100,101,102]
def hxB (n:Nat):UInt8:=hxS.getD (n % 16) 0
def hex8 (h:Nat):ah := [hxB (h / 268435456),hxB (h / 16777216),hxB (h / 1048576),hxB (h / 65536),hxB (h / 4096),hxB (h / 256),hxB (h / 16),hxB h]
theorem hxB_ne (a:Nat):hxB a≠35:=by
 have all:∀n:Fin 16,hxS.getD n.val 0≠35:=by decide +kernel
 exact all ⟨a % 16,Nat.mod_lt _ (by decide)⟩
theorem hex8_ne (h:Nat):∀x∈hex8 h,x≠35:=by
 intro x hx
 unfold hex8 at hx
 simp only[List.mem_cons,List.not_mem_nil,or_false]at hx
 rcases hx with rfl|rfl|rfl|rfl|rfl|rfl|rfl|rfl <;> exact hxB_ne _
def om (s:ah):ah:=s++35::hex8 (fnvS s)
theorem P1 (s:ah):(om s).length=s.length+9:=by simp[om,hex8]
def Ni (s:ah):Option ah:=if 9≤s.length∧om (s.take (s.length - 9))=s then some (s.take (s.length - 9))else none
theorem open_seal (s:ah):Ni (om s)=some s:=by
 have hl:=P1 s
 have ht:(om s).take ((om s).length - 9)=s:=by rw[hl,Nat.add_sub_cancel]; unfold om; simp
 unfold Ni
 rw[ht,if_pos ⟨by omega,rfl⟩]
theorem open_some {s t:ah} (h:Ni s=some t):s=om t:=by
 unfold Ni at h
 split at h
 ·rename_i hc
  cases h
  exact hc.2.symm
 ·cases h
end Go.Proofs.YtidfokedcnhahaaGreatDoor
set_option maxRecDepth 100000
namespace Go.Proofs.YtidfokedcnhahaaGreatDoor
open Go Go.aC Go.Lib
def U9:ah := [97,98,99,100,101,102,103,104,105,106,107,108,109,110,111,112,113,114,115,116,117,118,119,120,121,122,65,66,67,68,69,70,71,72,73,74,75,76,77,78,79,80,81,82,83,84,85,86,87,88,89,90,48,49,50,51,52,53,54,55,56,57,95,46,58,45]
def DN (s:ah):Bool:=s.all (U9.contains ·)&&(!s.isEmpty&&decide (s.length≤16))
def AJ:Stop→List aC.Way→List Stop→Bool
 | _, [], []=>true
 | f,e::es,t::ts=>(cY e.yC&&cY e.seq&&cY t.node&&cY t.seq)&&(decide (e.seq=f.seq+1)&&decide (t.seq=e.seq+1))&&((e.bO==t.bO)&&(!t.bO||f.bO))&&AJ t es ts
 | _,_,_=>false
def n8 (o:Order):Bool :=
 DN o.cO&&(cY o.header&&cY o.order&&cY o.update)&&(match o.nodes with
  | []=>false
  | f::ns=>decide (ns.length<64)&&(decide (Int.tmod f.seq 2=0)&&f.bO)&&(cY f.node&&cY f.seq)&&AJ f o.bK ns)
def Gq:ah := [104,101,97,100,101,114,73,100]
def zQ:ah := [115,101,114,105,97,108,78,117,109,98,101,114]
def MG:ah := [111,114,100,101,114,73,100]
def Gr:ah := [111,114,100,101,114,85,112,100,97,116,101,73,100]
def MH:ah := [110,111,100,101,115]
def R7:ah := [101,100,103,101,115]
def KV:ah := [110,111,100,101,73,100]
def KW:ah := [101,100,103,101,73,100]
def KX:ah := [115,101,113,117,101,110,99,101,73,100]
def NK:ah := [114,101,108,101,97,115,101,100]
def KY (n:ah) (a b:Int) (r:Bool):Json:=objV [n,KX,NK] [Bn a,Bn b,WR r]
def Nj (x:Stop):Json:=KY KV x.node x.seq x.bO
def WS (x:aC.Way):Json:=KY KW x.yC x.seq x.bO
def R8:List ah := [Gq,zQ,MG,Gr,MH,R7]
def o9 (o:Order):Json:=objV R8 [Bn o.header,strV o.cO,Bn o.order,Bn o.update,R6 (o.nodes.map Nj),R6 (o.bK.map WS)]
def vN (v:Json) (s:ah):Option Int:=(Pu.Wy v s).bind Pu.YO
def Fl (v:Json) (s:ah):Option ah:=(Pu.Wy v s).bind Pu.textF
def JS (v:Json) (s:ah):Option Bool:=(Pu.Wy v s).bind Pu.YP
def Fo (v:Json) (s:ah):Option (List Json):=(Pu.Wy v s).bind Pu.listF
def I3 (x:Json):Option Stop:=match vN x KV,vN x KX,JS x NK with
 | some a,some b,some r=>some ⟨a,b,r⟩
 | _,_,_=>none
def TZ (x:Json):Option aC.Way:=match vN x KW,vN x KX,JS x NK with
 | some a,some b,some r=>some ⟨a,b,r⟩
 | _,_,_=>none
def MI {α:Type} (f:Json→Option α):List Json→Option (List α)
 | []=>some []
 | x::l=>match f x,MI f l with
  | some y,some r=>some (y::r)
  | _,_=>none
def orderT (v:Json):Option Order :=
 match vN v Gq,Fl v zQ,vN v MG,vN v Gr,Fo v MH,Fo v R7 with
 | some h,some s,some n,some u,some ns,some es =>
  (match MI I3 ns,MI TZ es with
   | some a,some b=>some ⟨h,s,n,u,a,b⟩
   | _,_=>none)
 | _,_,_,_,_,_=>none
def takeO (s:ah):Except Int Order :=
 match Ni s with
 | none => .error 60
 | some t =>
  if (tj t).2.1≠0 then .error (tj t).2.1 else
  match orderT (tj t).1 with
  | some o=>if n8 o then .ok o else .error 80
  | none => .error 80
theorem part_at {n:ah} {a b:Int} {r:Bool} (hn:n=KV∨n=KW) (ha:cY a=true) (hb:cY b=true):vN (KY n a b r) n=some a∧vN (KY n a b r) KX=some b∧JS (KY n a b r) NK=some r:=by
 have e1:Pu.Wy (KY n a b r) n=some (Bn a):=by rcases hn with rfl|rfl <;> rfl
 have e2:Pu.Wy (KY n a b r) KX=some (Bn b):=by rcases hn with rfl|rfl <;> rfl
 have e3:Pu.Wy (KY n a b r) NK=some (WR r):=by rcases hn with rfl|rfl <;> rfl
 unfold vN JS
 rw[e1,e2,e3]
 exact ⟨PA ha,PA hb,flagF_yes r⟩
def Va (x:Stop):Prop:=cY x.node=true∧cY x.seq=true
def wayOk (x:aC.Way):Prop:=cY x.yC=true∧cY x.seq=true
theorem stop_back {x:Stop} (h:Va x):I3 (Nj x)=some x:=by
 obtain ⟨h1,h2,h3⟩:=part_at (r:=x.bO) (.inl rfl) h.1 h.2
 unfold I3 Nj
 rw[h1,h2,h3]
theorem way_back {x:aC.Way} (h:wayOk x):TZ (WS x)=some x:=by
 obtain ⟨h1,h2,h3⟩:=part_at (r:=x.bO) (.inr rfl) h.1 h.2
 unfold TZ WS
 rw[h1,h2,h3]
theorem ZA {α:Type} {f:Json→Option α} {g:α→Json}:∀(l:List α),(∀x∈l,f (g x)=some x)→MI f (l.map g)=some l
 | [],_=>rfl
 | x::l,h=>by
  simp only[List.map_cons,MI]
  rw[h x (by simp),ZA l fun y hy=>h y (by simp[hy])]
theorem ZB:∀(f:Stop) (es:List aC.Way) (ts:List Stop),AJ f es ts=true→es.length=ts.length∧(∀x∈es,wayOk x)∧∀x∈ts,Va x
 | _, [], [],_=>⟨rfl,by simp,by simp⟩
 | f,e::es,t::ts,h=>by
  simp only[AJ,Bool.and_eq_true]at h
  obtain ⟨h1,h2,h3⟩:=ZB t es ts h.2
  obtain ⟨⟨⟨⟨⟨⟨a1,a2⟩,a3⟩,a4⟩,_⟩,_⟩,_⟩:=h
  refine ⟨by simp[h1],fun x hx => ?_,fun x hx => ?_⟩
  ·rcases List.mem_cons.1 hx with rfl|hx
   ·exact ⟨a1,a2⟩
   ·exact h2 x hx
  ·rcases List.mem_cons.1 hx with rfl|hx
   ·exact ⟨a3,a4⟩
   ·exact h3 x hx
 | _, [],_::_,h=>by simp[AJ]at h
 | _,_::_, [],h=>by simp[AJ]at h
structure OkO (o:Order):Prop where
 name:DN o.cO=true
 header:cY o.header=true
 order:cY o.order=true
 update:cY o.update=true
 nodes:∀x∈o.nodes,Va x
 bK:∀x∈o.bK,wayOk x
 many:1≤o.nodes.length∧o.nodes.length≤64∧o.bK.length+1=o.nodes.length
theorem P2 {o:Order} (h:n8 o=true):OkO o:=by
 obtain ⟨hd,ve,od,up,ns,es⟩:=o
 cases ns with
 | nil=>simp[n8]at h
 | cons f ns =>
  simp only[n8,Bool.and_eq_true,decide_eq_true_eq]at h
  obtain ⟨⟨h1,⟨h2,h3⟩,h4⟩,⟨⟨h5,_⟩,h6,h7⟩,h8⟩:=h
  obtain ⟨g1,g2,g3⟩:=ZB _ _ _ h8
  refine ⟨h1,h2,h3,h4,fun x hx => ?_,g2,by simp,by simp; omega,by simp[g1]⟩
  rcases List.mem_cons.1 hx with rfl|hx
  ·exact ⟨h6,h7⟩
  ·exact g3 x hx
theorem order_back {o:Order} (h:OkO o):orderT (o9 o)=some o:=by
 have e1:vN (o9 o) Gq=some o.header:=by
  show Pu.YO (Bn o.header)=_
  exact PA h.header
 have e2:Fl (o9 o) zQ=some o.cO:=rfl
 have e3:vN (o9 o) MG=some o.order:=by
  show Pu.YO (Bn o.order)=_
  exact PA h.order
 have e4:vN (o9 o) Gr=some o.update:=by
  show Pu.YO (Bn o.update)=_
  exact PA h.update
 have e5:Fo (o9 o) MH=some (o.nodes.map Nj):=rfl
 have e6:Fo (o9 o) R7=some (o.bK.map WS):=rfl
 unfold orderT
 rw[e1,e2,e3,e4,e5,e6]
 simp only
 rw[ZA o.nodes fun x hx=>stop_back (h.nodes x hx),ZA o.bK fun x hx=>way_back (h.bK x hx)]
theorem R9 {s:ah} (h:DN s=true):fW s=true∧s.length≤16:=by
 unfold DN at h
 simp only[Bool.and_eq_true,decide_eq_true_eq]at h
 refine ⟨?_,h.2.2⟩
 refine Kt.2 ⟨s.map (·.toNat),fun c hc => ?_,?_⟩
 ·obtain ⟨b,hb,rfl⟩:=List.mem_map.1 hc
  have:=List.all_eq_true.1 h.1 b hb
  have all:∀n:Fin 256,U9.contains (UInt8.ofNat n.val)=true→n.val<128:=by decide +kernel
  have h128:b.toNat<128:=by simpa using all ⟨b.toNat,UInt8.toNat_lt b⟩ (by simpa using this)
  exact .inl (by omega)
 ·have wT:=List.all_eq_true.1 h.1
  clear h
  induction s with
  | nil=>rfl
  | cons b s ih =>
   have hb:=wT b (by simp)
   have all:∀n:Fin 256,U9.contains (UInt8.ofNat n.val)=true→enc n.val = [UInt8.ofNat n.val]:=by decide +kernel
   have W2:=all ⟨b.toNat,UInt8.toNat_lt b⟩ (by simpa using hb)
   simp only[List.map_cons,fg,List.flatMap_cons]
   have:=ih fun x hx=>wT x (by simp[hx])
   unfold fg at this
   rw[←this]
   have hb3:enc b.toNat = [b]:=by simpa using W2
   rw[hb3]
   rfl
theorem ZC {n:ah} {a b:Int} {r:Bool} (hn:n=KV∨n=KW) (ha:cY a=true) (hb:cY b=true) {d:Int} (hd:d≤15):dO (KY n a b r) d=true:=by
 have hu:vM [] [n,KX,NK]=true:=by rcases hn with rfl|rfl <;> decide +kernel
 refine right_obj rfl hu ?_ (by omega)
 simp only[dQ,Bool.and_true]
 rw[Gz ha (by omega),Gz hb (by omega),right_yes r (by omega)]
 rfl
theorem rightL_of {l:List Json} {d:Int} (h:∀x∈l,dO x d=true):dQ l d=true:=by
 induction l with
 | nil=>rfl
 | cons x l ih =>
  simp only[dQ]
  rw[h x (by simp),ih fun y hy=>h y (by simp[hy])]
  rfl
theorem PB {o:Order} (h:OkO o):dO (o9 o) 1=true:=by
 obtain ⟨hv,_⟩:=R9 h.name
 refine right_obj rfl (by decide +kernel) ?_ (by omega)
 have hn:dQ (o.nodes.map Nj) (1+1+1)=true:=rightL_of fun x hx=>by
  obtain ⟨y,hy,rfl⟩:=List.mem_map.1 hx
  exact ZC (.inl rfl) (h.nodes y hy).1 (h.nodes y hy).2 (by omega)
 have he:dQ (o.bK.map WS) (1+1+1)=true:=rightL_of fun x hx=>by
  obtain ⟨y,hy,rfl⟩:=List.mem_map.1 hx
  exact ZC (.inr rfl) (h.bK y hy).1 (h.bK y hy).2 (by omega)
 simp only[dQ,Bool.and_true]
 rw[Gz h.header (by omega),right_str hv (by omega),Gz h.order (by omega),Gz h.update (by omega),right_arr hn (by omega),right_arr he (by omega)]
 rfl
theorem len_part {n:ah} {a b:Int} {r:Bool} (hn:n=KV∨n=KW) (ha:cY a=true) (hb:cY b=true):(cF (KY n a b r)).length≤130:=by
 have h1:=TX ha
 have h2:=TX hb
 have h3:=len_yes r
 have hq:(Pw n).length≤8∧(Pw KX).length≤12∧(Pw NK).length≤10:=by rcases hn with rfl|rfl <;> decide +kernel
 obtain ⟨q1,q2,q3⟩:=hq
 have e:=len_obj [n,KX,NK] [Bn a,Bn b,WR r]
 unfold KY
 rw[e]
 simp only[jb,List.headD_cons,List.tail_cons,List.length_append,List.length_cons,List.length_nil,if_true,Bool.false_eq_true,if_false]
 omega
theorem P3 {o:Order} (h:OkO o):(cF (o9 o)).length≤20000:=by
 obtain ⟨_,hv⟩:=R9 h.name
 obtain ⟨m1,m2,m3⟩:=h.many
 have h1:=TX h.header
 have h2:=TX h.order
 have h3:=TX h.update
 have h4:=len_str o.cO
 have h5:=len_arr (o.nodes.map Nj)
 have h6:=len_arr (o.bK.map WS)
 have h7:=Zy (o.nodes.map Nj) true 130 fun x hx=>by
  obtain ⟨y,hy,rfl⟩:=List.mem_map.1 hx
  exact len_part (.inl rfl) (h.nodes y hy).1 (h.nodes y hy).2
 have h8:=Zy (o.bK.map WS) true 130 fun x hx=>by
  obtain ⟨y,hy,rfl⟩:=List.mem_map.1 hx
  exact len_part (.inr rfl) (h.bK y hy).1 (h.bK y hy).2
 rw[List.length_map]at h7 h8
 have q:(Pw Gq).length≤10∧(Pw zQ).length≤14∧(Pw MG).length≤9∧(Pw Gr).length≤15∧(Pw MH).length≤7∧(Pw R7).length≤7:=by decide +kernel
 obtain ⟨q1,q2,q3,q4,q5,q6⟩:=q
 unfold o9 R8
 rw[len_obj]
 simp only[jb,List.headD_cons,List.tail_cons,List.length_append,List.length_cons,List.length_nil,if_true,Bool.false_eq_true,if_false]
 omega
theorem ZD {o:Order} (h:n8 o=true):takeO (om (cF (o9 o))) = .ok o:=by
 have hk:=P2 h
 unfold takeO
 rw[open_seal]
 simp only
 rw[parse_print (PB hk) (P3 hk)]
 simp only[ne_eq,not_true_eq_false,if_false]
 rw[order_back hk]
 simp only
 rw[if_pos h]
theorem lay_inj {a b:Order} (ha:n8 a=true) (hb:n8 b=true) (h:om (cF (o9 a))=om (cF (o9 b))):a=b:=by
 have h1:=ZD ha
 have h2:=ZD hb
 rw[h,h2]at h1
 cases h1
 rfl
theorem right_kind {v:Json} {d:Int} (h:dO v d=true):xF v.kind:=by
 cases eW.1 h <;> first|(unfold xF; simp only; omega)|(unfold xF; decide)
mutual
theorem KZ:∀(v:Json) (d:Int),dO v d=true→Px v=true→Pu.FF v
 | ⟨k,⟨m,e⟩,t,ns,is⟩,d,h,hl=>by
  have hL:=ZE is
  obtain ⟨l1,l2,l3,l4,l5⟩:=EK.1 hl
  have hk:=right_kind h
  have hi:=right_i64 _ _ h
  have hI:∀y∈is,Pu.FF y:=by
   cases eW.1 h with
   | name _ _ hd hk=>simp
   | num _ _ hd hn=>simp
   | text _ _ hd ht=>simp
   | arr _ _ hd hi=>exact hL _ hi l3
   | obj _ _ _ hd hl hu hi=>exact hL _ hi l3
  exact Pu.jok_mk hk hi.1 hi.2.1 (by simp only at l4; omega) l1 (fun s hs=>by have:=l5 s hs; omega) l2 hI
theorem ZE:∀(l:List Json) (d:Int),dQ l d=true→Py l=true→∀y∈l,Pu.FF y
 | [],_,_,_=>by simp
 | x::l,d,h,hl=>by
  simp only[dQ,Py,Bool.and_eq_true]at h hl
  intro y hy
  rcases List.mem_cons.1 hy with e|hy
  ·rw[e]
   exact KZ x d h.1 hl.1
  ·exact ZE l d h.2 hl.2 y hy
end
theorem parse_jok {s:ah} (h:(tj s).2.1=0):Pu.FF (tj s).1:=by
 obtain ⟨h1,h2,_⟩:=parseJ_ok s h
 exact KZ _ 1 h1 h2
theorem dec_num {n:Int} (h:cY n=true):(∀ {R:Type} (k:fv→Bool→Option R),bk n 0 k=k (dI n) true)∧∀ {R:Type} (k:fv→Bool→Option R),tY n 0 k=k (dI n) true:=by
 obtain ⟨h1,h2⟩:=xn.1 h
 rcases Zx h with ⟨rfl,e⟩|⟨u,j,g1,g2,e,g4,g5,g6⟩
 ·rw[e]
  exact ⟨fun k=>U3 0 k,fun k=>refMake_zero 0 k⟩
 ·rw[e]
  have hI:xF (u*10 ^ j):=by rw[←g2]; unfold xF; omega
  have hm:VV u (0+(j:Int))=(⟨u,(j:Int)⟩,true):=by
   unfold VV
   rw[if_pos ⟨by omega,by omega,by omega,by omega⟩,Int.zero_add]
  constructor
  ·intro R k
   have:=make_ok u j 0 g1 hI (by omega) (by omega) k
   rw[hm,←g2]at this
   exact this
  ·intro R k
   have:=refMake_ok u j 0 g1 hI (by unfold xF; omega) k
   rw[hm,←g2]at this
   exact this
theorem ZF {R:Type} {n:Int} (h:cY n=true) (k:Json→Option R):gq n k=k (Bn n):=by
 unfold gq Of
 rw[(dec_num h).1]
 rfl
abbrev YState:=aC.State
structure OkA (s:YState):Prop where
 name:DN s.cO=true
 header:cY s.header=true
 boot:cY s.boot=true
 order:cY s.order=true
 update:cY s.update=true
 node:cY s.node=true
 seq:cY s.seq=true
 accepted:cY s.accepted=true
def zB (c n:Int):Int:=Int.tmod (if c<0 then -(c+1)else c) n
theorem T0 (c n:Int):0≤zB c n:=by
 unfold zB
 apply Int.tmod_nonneg
 split <;> omega
theorem T1 (c:Int) {n:Int} (h:0<n):zB c n<n:=by
 unfold zB
 exact Int.tmod_lt_of_pos _ h
theorem P4 (c:Int):cY (zB c 1000000001)=true:=xn.2 ⟨T0 c _,by have:=T1 c (n:=1000000001) (by decide); omega⟩
def fitL:ah := [97,98,99,120,121,122,65,66,67,88,89,90,48,49,56,57,95,46,58,45]
def fitB (b:UInt8):UInt8:=fitL.getD (b.toNat % 20) 0
def fitN (s:ah):ah:=110::(s.take 15).map fitB
theorem fitB_ok (b:UInt8):U9.contains (fitB b)=true:=by
 have all:∀n:Fin 20,U9.contains (fitL.getD n.val 0)=true:=by decide +kernel
 exact all ⟨b.toNat % 20,Nat.mod_lt _ (by decide)⟩
theorem fitN_ok (s:ah):DN (fitN s)=true:=by
 unfold DN fitN
 simp only[List.isEmpty_cons,Bool.not_false,Bool.true_and,Bool.and_eq_true,decide_eq_true_eq,List.length_cons,List.length_map,List.length_take]
 refine ⟨List.all_eq_true.2 fun x hx => ?_,by omega⟩
 rcases List.mem_cons.1 hx with rfl|hx
 ·decide +kernel
 ·obtain ⟨y,_,rfl⟩:=List.mem_map.1 hx
  exact fitB_ok y
theorem even_mod (x:Int):Int.tmod (2*x) 2=0:=Int.tmod_eq_zero_of_dvd ⟨x,rfl⟩
def ka (o:Order) (first b:Int) (i:Nat):Stop:=⟨if i<o.nodes.length then zB (o.nodes.getD i Stop.z).node 1000000001 else 0,first+2*i,decide ((i:Int)<b)⟩
def Fp (o:Order) (first b:Int) (i:Nat):aC.Way:=⟨if i<o.nodes.length then zB (o.nodes.getD i Stop.z).seq 1000000001 else 0,first+2*i - 1,decide ((i:Int)<b)⟩
def pa (o:Order):Nat:=min (max o.nodes.length 1) 64
def ig (o:Order):Int:=2*zB o.bK.length 500
def mU (o:Order) (base:Int):Int:=1+zB base (pa o)
def Qm (o:Order) (base:Int):Order :=
 ⟨zB o.header 1000000001,fitN o.cO,zB o.order 1000000001,zB o.update 1000000001,(List.range' 0 (pa o)).map (ka o (ig o) (mU o base)),(List.range' 1 (pa o - 1)).map (Fp o (ig o) (mU o base))⟩
theorem K2 (o:Order):1≤pa o∧pa o≤64:=by unfold pa; omega
theorem V1 (o:Order):0≤ig o∧ig o≤998∧Int.tmod (ig o) 2=0:=by
 have h1:=T0 o.bK.length 500
 have h2:=T1 o.bK.length (n:=500) (by decide)
 unfold ig
 exact ⟨by omega,by omega,even_mod _⟩
theorem Sa (o:Order) (base:Int):1≤mU o base∧mU o base≤pa o:=by
 have h0:=K2 o
 have h1:=T0 base (pa o)
 have h2:=T1 base (n:=(pa o:Int)) (by omega)
 unfold mU
 omega
theorem fit_num (o:Order) (i:Nat) (f:Stop→Int):cY (if i<o.nodes.length then zB (f (o.nodes.getD i Stop.z)) 1000000001 else 0)=true:=by
 split
 ·exact P4 _
 ·rfl
theorem fit_steps (o:Order) (first b:Int) (h0:0≤first) (h1:first≤998):∀(m i:Nat),i+m≤64→AJ (ka o first b i) ((List.range' (i+1) m).map (Fp o first b)) ((List.range' (i+1) m).map (ka o first b))=true
 | 0,i,_=>rfl
 | m+1,i,h=>by
  have ih:=fit_steps o first b h0 h1 m (i+1) (by omega)
  simp only[List.range'_succ,List.map_cons,AJ]
  rw[ih]
  have a1:=fit_num o (i+1) (·.seq)
  have a2:=fit_num o (i+1) (·.node)
  have a3:cY (Fp o first b (i+1)).seq=true:=xn.2 ⟨by show 0≤first+2*((i+1:Nat):Int) - 1; omega,by show first+2*((i+1:Nat):Int) - 1≤_; omega⟩
  have a4:cY (ka o first b (i+1)).seq=true:=xn.2 ⟨by show 0≤first+2*((i+1:Nat):Int); omega,by show first+2*((i+1:Nat):Int)≤_; omega⟩
  have a5:cY (Fp o first b (i+1)).yC=true:=a1
  have a6:cY (ka o first b (i+1)).node=true:=a2
  rw[a3,a4,a5,a6]
  have b1:decide ((Fp o first b (i+1)).seq=(ka o first b i).seq+1)=true:=decide_eq_true (by show first+2*((i+1:Nat):Int) - 1=first+2*(i:Int)+1; omega)
  have b2:decide ((ka o first b (i+1)).seq=(Fp o first b (i+1)).seq+1)=true:=decide_eq_true (by show first+2*((i+1:Nat):Int)=first+2*((i+1:Nat):Int) - 1+1; omega)
  rw[b1,b2]
  have c1:((Fp o first b (i+1)).bO==(ka o first b (i+1)).bO)=true:=beq_self_eq_true _
  rw[c1]
  have c2:(!(ka o first b (i+1)).bO||(ka o first b i).bO)=true:=by
   show (!decide (((i+1:Nat):Int)<b)||decide ((i:Int)<b))=true
   by_cases h:((i+1:Nat):Int)<b
   ·rw[decide_eq_true h,decide_eq_true (show (i:Int)<b by omega)]; rfl
   ·rw[decide_eq_false h]; rfl
  rw[c2]
  rfl
theorem fit_nodes (o:Order) (base:Int):∃m,pa o=m+1∧(Qm o base).nodes=ka o (ig o) (mU o base) 0::(List.range' 1 m).map (ka o (ig o) (mU o base))∧(Qm o base).bK=(List.range' 1 m).map (Fp o (ig o) (mU o base)):=by
 obtain ⟨h1,h2⟩:=K2 o
 refine ⟨pa o - 1,by omega,?_,rfl⟩
 show (List.range' 0 (pa o)).map _=_
 obtain ⟨m,hm⟩:∃m,pa o=m+1:=⟨pa o - 1,by omega⟩
 rw[hm,List.range'_succ,List.map_cons]
 rfl
theorem ZG (o:Order) (base:Int):n8 (Qm o base)=true:=by
 obtain ⟨m,hm,e1,e2⟩:=fit_nodes o base
 obtain ⟨h1,h2⟩:=K2 o
 obtain ⟨f1,f2,f3⟩:=V1 o
 obtain ⟨b1,b2⟩:=Sa o base
 have hs:=fit_steps o (ig o) (mU o base) f1 f2 m 0 (by omega)
 unfold n8
 rw[e1,e2]
 have n1:DN (Qm o base).cO=true:=fitN_ok _
 have n2:cY (Qm o base).header=true:=P4 _
 have n3:cY (Qm o base).order=true:=P4 _
 have n4:cY (Qm o base).update=true:=P4 _
 rw[n1,n2,n3,n4]
 simp only[List.length_map,List.length_range']
 rw[hs,decide_eq_true (show m<64 by omega)]
 have c1:decide (Int.tmod (ka o (ig o) (mU o base) 0).seq 2=0)=true:=decide_eq_true (by
  have:(ka o (ig o) (mU o base) 0).seq=ig o:=by show ig o+2*((0:Nat):Int)=_; omega
  rw[this,f3])
 have c2:(ka o (ig o) (mU o base) 0).bO=true:=decide_eq_true (by omega)
 have c3:cY (ka o (ig o) (mU o base) 0).node=true:=fit_num o 0 (·.node)
 have c4:cY (ka o (ig o) (mU o base) 0).seq=true:=xn.2 ⟨by show 0≤ig o+2*((0:Nat):Int); omega,by show ig o+2*((0:Nat):Int)≤_; omega⟩
 rw[c1,c2,c3,c4]
 rfl
theorem fitO_len (o:Order) (base:Int):(Qm o base).nodes.length=pa o:=by
 show ((List.range' 0 (pa o)).map _).length=_
 rw[List.length_map,List.length_range']
def baseO (o:Order):Int:=((o.nodes.filter (·.bO)).length:Int)
theorem ZH (o:Order) (first b:Int):∀(m i:Nat),(((List.range' i m).map (ka o first b)).filter (·.bO)).length=(min (i+m) b.toNat) - i
 | 0,i=>by simp only[List.range'_zero,List.map_nil,List.filter_nil,List.length_nil]; omega
 | m+1,i=>by
  have ih:=ZH o first b m (i+1)
  rw[List.range'_succ,List.map_cons,List.filter_cons]
  have e:(ka o first b i).bO=decide ((i:Int)<b):=rfl
  rw[e]
  by_cases h:(i:Int)<b
  ·rw[decide_eq_true h,if_pos rfl,List.length_cons,ih]
   omega
  ·rw[decide_eq_false h,if_neg (by decide),ih]
   omega
theorem fitO_base (o:Order) (base:Int):baseO (Qm o base)=1+zB base (Qm o base).nodes.length:=by
 obtain ⟨b1,b2⟩:=Sa o base
 rw[fitO_len]
 show ((((List.range' 0 (pa o)).map (ka o (ig o) (mU o base))).filter (·.bO)).length:Int)=mU o base
 rw[ZH]
 omega
theorem pick_rawI {R:Type} (c n:Int) (hc:xF c) (h0:0<n) (k:Int→Option R) :
  (bif (decide (c<(0:Int)))then (cb (!decide (n=0)) (k (Int.tmod (IntKind.i64.wrap (0 - (IntKind.i64.wrap (c+1)))) n)))else (cb (!decide (n=0)) (k (Int.tmod c n))))=k (zB c n):=by
 obtain ⟨h1,h2⟩:=hc
 have hz:(!decide (n=0))=true:=by simp; omega
 unfold zB
 by_cases h:c<0
 ·have hd:decide (c<(0:Int))=true:=by simpa using h
  rw[hd,cond_true,aw hz,cA (n:=c+1) (by omega) (by omega),cA (by omega) (by omega),if_pos h,Int.zero_sub]
 ·have hd:decide (c<(0:Int))=false:=by simpa using h
  rw[hd,cond_false,aw hz,if_neg h]
theorem trim_none:∀s:ah,bu s U9 = []↔s.all (U9.contains ·)=true
 | []=>by simp[bu]
 | b::s=>by
  have ih:=trim_none s
  unfold bu at ih ⊢
  rw[List.dropWhile_cons,List.all_cons]
  by_cases h:U9.contains b=true
  ·rw[if_pos h,h,Bool.true_and]
   exact ih
  ·rw[if_neg h,Bool.eq_false_iff.2 h,Bool.false_and]
   simp
theorem trim_name (s:ah):((bu s U9==([]:ah))&&(!(s==([]:ah))&&decide ((s.length:Int)≤16)))=DN s:=by
 have e1:(bu s U9==([]:ah))=s.all (U9.contains ·):=by
  rw[Bool.eq_iff_iff,←trim_none]
  exact beq_iff_eq
 have e2:(s==([]:ah))=s.isEmpty:=by cases s <;> rfl
 have e3:decide ((s.length:Int)≤16)=decide (s.length≤16):=decide_eq_decide.2 (by omega)
 unfold DN
 rw[e1,e2,e3]
def CH (s:ah) (j:Nat):ah:=110::((s.take j).map fitB++s.drop j)
theorem fitSt_get (s:ah) (j:Nat) (h:j<s.length) (d:UInt8):(CH s j).getD (j+1) d=s[j]:=by
 have e:((s.take j).map fitB).length=j:=by rw[List.length_map,List.length_take]; omega
 unfold CH
 rw[List.getD_cons_succ,List.getD_eq_getElem?_getD,List.getElem?_append_right (by omega),e,Nat.sub_self,List.getElem?_drop,Nat.add_zero,List.getElem?_eq_getElem h]
 rfl
theorem fitSt_set (s:ah) (j:Nat) (h:j<s.length):(CH s j).set (j+1) (fitB s[j])=CH s (j+1):=by
 have e:((s.take j).map fitB).length=j:=by rw[List.length_map,List.length_take]; omega
 unfold CH
 rw[List.set_cons_succ,List.set_append_right _ _ (by omega),e,Nat.sub_self,List.drop_eq_getElem_cons h,List.set_cons_zero,List.take_succ_eq_append_getElem h,List.map_append,List.map_singleton,List.append_assoc]
 rfl
theorem P5 (s:ah) (j:Nat):(CH s j).length=s.length+1:=by
 unfold CH
 simp only[List.length_cons,List.length_append,List.length_map,List.length_take,List.length_drop]
 omega
theorem fitSt_end (s:ah):CH (s.take 15) (s.take 15).length=fitN s:=by
 unfold CH fitN
 rw[List.take_length,List.drop_length,List.append_nil]
def sumN:List ah→Nat
 | []=>0
 | n::l=>(Pw n).length+2+sumN l
def sumI:List Json→Nat
 | []=>0
 | x::l=>(cF x).length+sumI l
structure Fields (ns:List ah) (is:List Json):Prop where
 len:ns.length=is.length
 uniq:vM [] ns=true
 right:∀x∈is,dO x 2=true
 short:sumN ns+sumI is≤19000
variable {ns:List ah} {is:List Json}
def ZI (o:Order):List Json := [Bn o.header,strV o.cO,Bn o.order,Bn o.update,R6 (o.nodes.map Nj),R6 (o.bK.map WS)]
structure StepsO (o:Order):Prop where
 first:Int.tmod (o.nodes.getD 0 Stop.z).seq 2=0∧(o.nodes.getD 0 Stop.z).bO=true
 next:∀i,i<o.bK.length→(o.nodes.getD (i+1) Stop.z).seq=(o.bK.getD i aC.Way.z).seq+1∧(o.bK.getD i aC.Way.z).bO=(o.nodes.getD (i+1) Stop.z).bO
theorem uk {α:Type} (b:Bool) (x y:α):(bif !b then x else y)=bif b then y else x:=by cases b <;> rfl
theorem K3 {α:Type} [DecidableEq α] (a b:α):(a != b) = !decide (a=b):=by
 by_cases h:a=b <;> simp[h]
theorem Xh {α:Type} [DecidableEq α] (a b:α):(a==b)=decide (a=b):=by
 by_cases h:a=b <;> simp[h]
theorem K4 {i n:Nat} (h:i<n):(decide ((0:Int)≤(i:Int))&&decide ((i:Int)<(n:Int)))=true:=by rw[aM (by omega),aM (by omega)]; rfl
theorem kX (i:Nat):(decide ((0:Int)≤(i:Int))&&true)=true:=by rw[aM (by omega)]; rfl
theorem CI {i n:Nat} (h:i<n) (hn:n≤4000000000000):IntKind.i64.wrap ((i:Int)+1)=((i+1:Nat):Int):=by rw[cA (by omega) (by omega)]; omega
theorem topicName_ok {R:Type} (s:ah) (k:Bool→Option R):topic_Name s k=k (DN s):=by
 unfold topic_Name topic_Name_X
 rw[aw (by decide +kernel),←trim_name s]
 show (bif (bu s U9==([]:ah))then (bif (!(s==([]:ah)))then k (decide ((s.length:Int)≤16))else k false)else k false)=_
 cases (bu s U9==([]:ah)) <;> cases (s==([]:ah)) <;> rfl
theorem num1_ok {R:Type} (n:Int) (k:Bool→Option R):fm n k=k (!cY n):=by
 unfold fm Jd cY
 by_cases h:n<0
 ·rw[aM h,cond_true,bJ (show ¬(0:Int)≤n by omega)]; rfl
 ·rw[bJ h,cond_false,aM (show (0:Int)≤n by omega)]
  by_cases h2:n>1000000000
  ·rw[aM h2,bJ (show ¬n≤1000000000 by omega)]; rfl
  ·rw[bJ h2,aM (show n≤1000000000 by omega)]; rfl
theorem num_loop {R:Type} (l:List Int) (hl:l.length≤1000000) (e0 X:Option R) (e1:Int→Option R) (h1:∀j:Nat,e1 (j:Int)=X):∀(F i:Nat),i≤l.length→l.length - i<F →
  aU F l (l.length:Int) (i:Int) e0 e1=if (l.drop i).all cY then e0 else X:=by
 intro F
 induction F with
 | zero=>intro i _ hF; omega
 | succ F ih =>
  intro i hi hF
  show gD fm (fun x0 x1 x2=>aU F x0 x1 x2 e0 e1) l (l.length:Int) (i:Int) e0 e1=_
  unfold gD
  by_cases h:i<l.length
  ·have hg:l.getD (i:Int).toNat (Ty.aZ (.int .i64))=l[i]:=getD_at h _
   rw[aM (show (i:Int)<(l.length:Int) by omega),cond_true,aw (kX i),hg,num1_ok,uk,CI h (by omega)]
   dsimp only
   rw[ih (i+1) (by omega) (by omega),h1,List.drop_eq_getElem_cons h,List.all_cons]
   cases cY l[i] <;> rfl
  ·rw[bJ (show ¬(i:Int)<(l.length:Int) by omega),cond_false,List.drop_eq_nil_of_le (by omega)]
   rfl
theorem num_ok {R:Type} (l:List Int) (hl:l.length≤1000000) (k:Bool→Option R):fY l k=k (l.all cY):=by
 unfold fY N9 cp kh cJ lS
 refine (num_loop l hl _ (k false) _ (fun j => ?_) _ 0 (by omega) (by omega)).trans ?_
 ·show k (!decide ((j:Int)≥0))=_
  rw[aM (by omega)]; rfl
 ·rw[List.drop_zero]
  cases l.all cY <;> rfl
theorem right_loop {R:Type} (o:Order) (hn:o.nodes.length≤64) (he:o.bK.length+1=o.nodes.length) (k:Bool→Option R):∀(F i:Nat),i≤o.bK.length→o.bK.length - i<F→cY (o.nodes.getD i Stop.z).seq=true →
  cM F o.bK (o.bK.length:Int) (i:Int) o (k true) (fun y=>k y)=k (AJ (o.nodes.getD i Stop.z) (o.bK.drop i) (o.nodes.drop (i+1))):=by
 intro F
 induction F with
 | zero=>intro i _ hF; omega
 | succ F ih =>
  intro i hi hF hs
  show vm fY (fun x0 x1 x2 x3=>cM F x0 x1 x2 x3 (k true) (fun y=>k y)) o.bK (o.bK.length:Int) (i:Int) o (k true) (fun y=>k y)=_
  unfold vm
  by_cases h:i<o.bK.length
  ·have h':i+1<o.nodes.length:=by omega
   have hge:o.bK.getD (i:Int).toNat (Ty.aZ .pD)=o.bK[i]:=getD_at h _
   have hgf:o.nodes.getD (i:Int).toNat (Ty.aZ .stop)=o.nodes[i]:=getD_at (by omega) _
   have hgf':o.nodes.getD i Stop.z=o.nodes[i]:=getD_at (by omega) _
   have hgt:o.nodes.getD ((i+1:Nat):Int).toNat (Ty.aZ .stop)=o.nodes[i+1]:=getD_at h' _
   have hgt':o.nodes.getD (i+1) Stop.z=o.nodes[i+1]:=getD_at h' _
   have ih:=ih (i+1) (by omega) (by omega)
   rw[aM (show (i:Int)<(o.bK.length:Int) by omega),cond_true,aw (kX i),aw (K4 (show i<o.nodes.length by omega)),CI h (by omega),aw (K4 h'),hge,hgf,hgt,num_ok _ (by simp)]
   rw[List.drop_eq_getElem_cons h,List.drop_eq_getElem_cons h',hgf']
   rw[hgt']at ih
   rw[hgf']at hs
   generalize o.bK[i]=e at *
   generalize o.nodes[i]=f at *
   generalize o.nodes[i+1]=t at *
   have eA:([e.yC,e.seq,t.node,t.seq]:List Int).all cY=(cY e.yC&&cY e.seq&&cY t.node&&cY t.seq):=by simp only[List.all_cons,List.all_nil,Bool.and_true,Bool.and_assoc]
   simp only[AJ,eA]
   cases hA:(cY e.yC&&cY e.seq&&cY t.node&&cY t.seq)with
   | false=>rfl
   | true =>
    simp only[Bool.and_eq_true]at hA
    have b1:=xn.1 hs
    have b2:=xn.1 hA.1.1.2
    rw[Bool.not_true,cond_false,cA (n:=f.seq+1) (by omega) (by omega),cA (n:=e.seq+1) (by omega) (by omega),K3,uk,K3,uk,uk,uk]
    rw[show (fun y:Bool=>k y)=k from rfl]at ih ⊢
    rw[ih hA.2]
    cases decide (e.seq=f.seq+1) <;> cases decide (t.seq=e.seq+1) <;> cases (e.bO==t.bO) <;> cases t.bO <;> cases f.bO <;> rfl
  ·rw[bJ (show ¬(i:Int)<(o.bK.length:Int) by omega),cond_false,List.drop_eq_nil_of_le (by omega),List.drop_eq_nil_of_le (by omega)]
   rfl
theorem JT {R:Type} (o:Order) (hn:o.nodes.length≤4000000000000) (k:Bool→Option R):bZ o k=k (n8 o):=by
 unfold bZ Jg
 rw[topicName_ok,num_ok _ (by simp)]
 have e3:([o.header,o.order,o.update]:List Int).all cY=(cY o.header&&cY o.order&&cY o.update):=by simp only[List.all_cons,List.all_nil,Bool.and_true,Bool.and_assoc]
 have hr:n8 o=(DN o.cO&&(cY o.header&&cY o.order&&cY o.update)&&(match o.nodes with
  | []=>false
  | f::ns=>decide (ns.length<64)&&(decide (Int.tmod f.seq 2=0)&&f.bO)&&(cY f.node&&cY f.seq)&&AJ f o.bK ns)):=rfl
 rw[hr,e3]
 cases DN o.cO with
 | false=>rfl
 | true =>
 cases (cY o.header&&cY o.order&&cY o.update)with
 | false=>rfl
 | true =>
 simp only[Bool.not_true,cond_false,Bool.true_and]
 cases hs:o.nodes with
 | nil=>rfl
 | cons f ns =>
  rw[hs]at hn
  simp only[List.length_cons]at hn ⊢
  rw[bJ (show ¬((ns.length+1:Nat):Int)<1 by omega),cond_false]
  by_cases h64:ns.length<64
  rotate_left
  ·rw[aM (show ((ns.length+1:Nat):Int)>64 by omega),bJ h64]
   rfl
  rw[bJ (show ¬((ns.length+1:Nat):Int)>64 by omega),cond_false,aM h64,cA (n:=((ns.length+1:Nat):Int) - 1) (by omega) (by omega),K3,uk]
  by_cases hl:o.bK.length=ns.length
  rotate_left
  ·rw[bJ (show ¬(o.bK.length:Int)=((ns.length+1:Nat):Int) - 1 by omega),cond_false]
   have:AJ f o.bK ns=false:=by
    cases hq:AJ f o.bK ns with
    | false=>rfl
    | true=>exact (hl (ZB _ _ _ hq).1).elim
   rw[this,Bool.and_false]
  rw[aM (show (o.bK.length:Int)=((ns.length+1:Nat):Int) - 1 by omega),cond_true,aw (aM (by omega)),K3,uk,uk]
  have hg:(f::ns).getD 0 (Ty.aZ .stop)=f:=rfl
  rw[hg,num_ok _ (by simp)]
  have e2:([f.node,f.seq]:List Int).all cY=(cY f.node&&cY f.seq):=by simp only[List.all_cons,List.all_nil,Bool.and_true]
  rw[e2]
  cases hN:(cY f.node&&cY f.seq)with
  | false=>cases decide (Int.tmod f.seq 2=0) <;> cases f.bO <;> rfl
  | true =>
   simp only[Bool.and_eq_true]at hN
   have hL:=right_loop o (by rw[hs]; simp; omega) (by rw[hs]; simp; omega) k (List.length o.bK+Int.natAbs (o.bK.length:Int)+Int.natAbs 0+Order.fu o+64) 0 (by omega) (by omega) (by rw[hs]; exact hN.2)
   rw[hs]at hL
   have hL':=hL
   simp only[List.drop_zero,List.drop_succ_cons]at hL'
   rw[Bool.not_true,cond_false]
   have hL2:cM (List.length o.bK+Int.natAbs (o.bK.length:Int)+Int.natAbs 0+Order.fu o+64) o.bK (o.bK.length:Int) 0 o (k true) (fun yK=>k yK)=k (AJ f o.bK ns):=hL'
   rw[hL2]
   cases decide (Int.tmod f.seq 2=0) <;> cases f.bO <;> cases AJ f o.bK ns <;> rfl
def eqS:List Stop→List Stop→Bool
 | [], []=>true
 | x::l,y::m=>(x.node==y.node&&(x.seq==y.seq&&(x.bO==y.bO&&true)))&&eqS l m
 | _,_=>false
def eqW:List aC.Way→List aC.Way→Bool
 | [], []=>true
 | x::l,y::m=>(x.yC==y.yC&&(x.seq==y.seq&&(x.bO==y.bO&&true)))&&eqW l m
 | _,_=>false
theorem eqS_iff:∀ {a b:List Stop},eqS a b=true↔a=b
 | [], []=>by simp[eqS]
 | x::l,y::m=>by
  obtain ⟨a1,a2,a3⟩:=x
  obtain ⟨b1,b2,b3⟩:=y
  simp[eqS,eqS_iff (a:=l) (b:=m),and_assoc]
 | [],_::_=>by simp[eqS]
 | _::_, []=>by simp[eqS]
theorem eqW_iff:∀ {a b:List aC.Way},eqW a b=true↔a=b
 | [], []=>by simp[eqW]
 | x::l,y::m=>by
  obtain ⟨a1,a2,a3⟩:=x
  obtain ⟨b1,b2,b3⟩:=y
  simp[eqW,eqW_iff (a:=l) (b:=m),and_assoc]
 | [],_::_=>by simp[eqW]
 | _::_, []=>by simp[eqW]
theorem eqS_len {a b:List Stop} (h:a.length≠b.length):eqS a b=false:=Bool.eq_false_iff.2 fun e=>h (by rw[eqS_iff.1 e])
theorem eqW_len {a b:List aC.Way} (h:a.length≠b.length):eqW a b=false:=Bool.eq_false_iff.2 fun e=>h (by rw[eqW_iff.1 e])
def Q9 (a b:Order):Bool:=a.header==b.header&&(a.cO==b.cO&&(a.order==b.order&&(a.update==b.update&&(eqS a.nodes b.nodes&&eqW a.bK b.bK))))
theorem sameO_iff {a b:Order}:Q9 a b=true↔a=b:=by
 obtain ⟨a1,a2,a3,a4,a5,a6⟩:=a
 obtain ⟨b1,b2,b3,b4,b5,b6⟩:=b
 simp[Q9,eqS_iff,eqW_iff]
theorem sameO_self (a:Order):Q9 a a=true:=sameO_iff.2 rfl
theorem eqS_loop {R:Type} (a b:List Stop) (hl:a.length=b.length) (ha:a.length≤1099511627776) (e0:Option R) (e1:Bool→Option R):∀(F i:Nat),i≤a.length→a.length - i<F →
  bw F a b (a.length:Int) (i:Int) e0 e1=bif eqS (a.drop i) (b.drop i)then e0 else e1 false:=by
 intro F
 induction F with
 | zero=>intro i _ hF; omega
 | succ F ih =>
  intro i hi hF
  show j9 (fun x0 x1 x2 x3=>bw F x0 x1 x2 x3 e0 e1) a b (a.length:Int) (i:Int) e0 e1=_
  unfold j9
  by_cases h:i<a.length
  ·have ga:a.getD (i:Int).toNat (Ty.aZ .stop)=a[i]:=getD_at h _
   have gb:b.getD (i:Int).toNat (Ty.aZ .stop)=b[i]:=getD_at (by omega) _
   rw[aM (show (i:Int)<(a.length:Int) by omega),cond_true,aw (kX i),aw (K4 (show i<b.length by omega)),ga,gb,CI h (by omega)]
   dsimp only
   rw[ih (i+1) (by omega) (by omega),List.drop_eq_getElem_cons h,List.drop_eq_getElem_cons (show i<b.length by omega),uk]
   simp only[eqS]
   cases (a[i].node==b[i].node&&(a[i].seq==b[i].seq&&(a[i].bO==b[i].bO&&true))) <;> rfl
  ·rw[bJ (show ¬(i:Int)<(a.length:Int) by omega),cond_false,List.drop_eq_nil_of_le (by omega),List.drop_eq_nil_of_le (by omega)]
   rfl
theorem eqW_loop {R:Type} (a b:List aC.Way) (hl:a.length=b.length) (ha:a.length≤1099511627776) (e0:Option R) (e1:Bool→Option R):∀(F i:Nat),i≤a.length→a.length - i<F →
  bI F a b (a.length:Int) (i:Int) e0 e1=bif eqW (a.drop i) (b.drop i)then e0 else e1 false:=by
 intro F
 induction F with
 | zero=>intro i _ hF; omega
 | succ F ih =>
  intro i hi hF
  show lE (fun x0 x1 x2 x3=>bI F x0 x1 x2 x3 e0 e1) a b (a.length:Int) (i:Int) e0 e1=_
  unfold lE
  by_cases h:i<a.length
  ·have ga:a.getD (i:Int).toNat (Ty.aZ .pD)=a[i]:=getD_at h _
   have gb:b.getD (i:Int).toNat (Ty.aZ .pD)=b[i]:=getD_at (by omega) _
   rw[aM (show (i:Int)<(a.length:Int) by omega),cond_true,aw (kX i),aw (K4 (show i<b.length by omega)),ga,gb,CI h (by omega)]
   dsimp only
   rw[ih (i+1) (by omega) (by omega),List.drop_eq_getElem_cons h,List.drop_eq_getElem_cons (show i<b.length by omega),uk]
   simp only[eqW]
   cases (a[i].yC==b[i].yC&&(a[i].seq==b[i].seq&&(a[i].bO==b[i].bO&&true))) <;> rfl
  ·rw[bJ (show ¬(i:Int)<(a.length:Int) by omega),cond_false,List.drop_eq_nil_of_le (by omega),List.drop_eq_nil_of_le (by omega)]
   rfl
theorem eqS_ok {R:Type} (a b:List Stop) (ha:a.length≤1099511627776) (k:Bool→Option R):dN a b k=k (eqS a b):=by
 unfold dN sU
 rw[K3,uk]
 by_cases hl:a.length=b.length
 ·rw[aM (show (a.length:Int)=(b.length:Int) by omega),cond_true]
  refine (eqS_loop a b hl ha _ _ _ 0 (by omega) (by omega)).trans ?_
  rw[List.drop_zero,List.drop_zero]
  cases eqS a b <;> rfl
 ·rw[bJ (show ¬(a.length:Int)=(b.length:Int) by omega),eqS_len hl]
  rfl
theorem eqW_ok {R:Type} (a b:List aC.Way) (ha:a.length≤1099511627776) (k:Bool→Option R):eG a b k=k (eqW a b):=by
 unfold eG vb
 rw[K3,uk]
 by_cases hl:a.length=b.length
 ·rw[aM (show (a.length:Int)=(b.length:Int) by omega),cond_true]
  refine (eqW_loop a b hl ha _ _ _ 0 (by omega) (by omega)).trans ?_
  rw[List.drop_zero,List.drop_zero]
  cases eqW a b <;> rfl
 ·rw[bJ (show ¬(a.length:Int)=(b.length:Int) by omega),eqW_len hl]
  rfl
theorem orderSame_ok {R:Type} (a b:Order) (ha:a.nodes.length≤1099511627776) (he:a.bK.length≤1099511627776) (k:Bool→Option R):fG a b k=k (Q9 a b):=by
 unfold fG Mq Q9
 simp only[eqS_ok _ _ ha,eqW_ok _ _ he]
 cases (a.header==b.header) <;> cases (a.cO==b.cO) <;> cases (a.order==b.order) <;> cases (a.update==b.update) <;> cases eqS a.nodes b.nodes <;> rfl
theorem base_loop {R:Type} (l:List Stop) (hl:l.length≤1099511627776) (e0:Int→Option R):∀(F i n:Nat),i≤l.length→l.length - i<F→n≤i →
  dm F (n:Int) l (l.length:Int) (i:Int) e0=e0 ((n+((l.drop i).filter (·.bO)).length:Nat):Int):=by
 intro F
 induction F with
 | zero=>intro i n _ hF; omega
 | succ F ih =>
  intro i n hi hF hn
  show xi (fun x0 x1 x2 x3=>dm F x0 x1 x2 x3 e0) (n:Int) l (l.length:Int) (i:Int) e0=_
  unfold xi
  by_cases h:i<l.length
  ·have ga:l.getD (i:Int).toNat (Ty.aZ .stop)=l[i]:=getD_at h _
   rw[aM (show (i:Int)<(l.length:Int) by omega),cond_true,aw (kX i),ga,CI h (by omega),CI (show n<l.length by omega) (by omega)]
   dsimp only
   rw[ih (i+1) (n+1) (by omega) (by omega) (by omega),ih (i+1) n (by omega) (by omega) (by omega),List.drop_eq_getElem_cons h,List.filter_cons]
   cases l[i].bO with
   | false=>rfl
   | true =>
    simp only[cond_true,if_true,List.length_cons]
    congr 1
    omega
  ·rw[bJ (show ¬(i:Int)<(l.length:Int) by omega),cond_false,List.drop_eq_nil_of_le (by omega)]
   rfl
theorem orderBase_ok {R:Type} (o:Order) (hl:o.nodes.length≤1099511627776) (k:Int→Option R):fH o k=k (baseO o):=by
 unfold fH Mu
 refine (base_loop o.nodes hl _ _ 0 0 (by omega) (by omega) (by omega)).trans ?_
 rw[List.drop_zero,Nat.zero_add]
 rfl
theorem w32 (n:Nat):IntKind.u32.wrap (n:Int)=((n % 4294967296:Nat):Int):=by
 show ((n:Int) % 4294967296)=_
 omega
theorem of32 (n:Nat):(BitVec.ofInt IntKind.u32.bits (n:Int)).toNat=n % 4294967296:=by
 rw[BitVec.toNat_ofInt]
 show ((n:Int) % ((4294967296:Nat):Int)).toNat=_
 omega
theorem xor32 (h c:Nat) (hh:h<4294967296) (c8:UInt8) (hc:c=c8.toNat):IntKind.u32.wrap ((BitVec.ofInt IntKind.u32.bits (h:Int) ^^^ BitVec.ofInt IntKind.u32.bits (c:Int)).toNat:Int)=((h ^^^ c8.toNat:Nat):Int):=by
 have h8:=UInt8.toNat_lt c8
 subst hc
 rw[BitVec.toNat_xor,of32,of32,Nat.mod_eq_of_lt hh,Nat.mod_eq_of_lt (by omega),w32,Nat.mod_eq_of_lt (xor_lt hh c8)]
theorem step32 (h:Nat) (hh:h<4294967296) (c:UInt8):IntKind.u32.wrap ((IntKind.u32.wrap ((BitVec.ofInt IntKind.u32.bits (h:Int) ^^^ BitVec.ofInt IntKind.u32.bits (IntKind.u32.wrap (c.toNat:Int))).toNat:Int))*16777619)=((TY h c:Nat):Int):=by
 have h8:=UInt8.toNat_lt c
 rw[w32 c.toNat,Nat.mod_eq_of_lt (by omega),xor32 h c.toNat hh c rfl]
 have e:(((h ^^^ c.toNat:Nat):Int)*16777619)=(((h ^^^ c.toNat)*16777619:Nat):Int):=by rw[Int.natCast_mul]; rfl
 rw[e,w32]
 rfl
theorem sum_loop {R:Type} (s:ah) (hs:s.length≤1099511627785) (e0:Int→Option R):∀(F i h:Nat),i≤s.length→s.length - i<F→h<4294967296→dM F (h:Int) s.length (s.length:Int) (i:Int) (jI s) e0=e0 ((fnvN (s.drop i) h:Nat):Int):=by
 intro F
 induction F with
 | zero=>intro i h _ hF; omega
 | succ F ih =>
  intro i h hi hF hh
  show Co (fun x0 x1 x2 x3 x4=>dM F x0 x1 x2 x3 x4 e0) (h:Int) s.length (s.length:Int) (i:Int) (jI s) e0=_
  unfold Co
  by_cases hl:i<s.length
  rotate_left
  ·rw[bJ (show ¬(i:Int)<(s.length:Int) by omega),cond_false,List.drop_eq_nil_of_le (by omega)]
   unfold fnvN
   rw[List.foldl_nil]
  have hw:IntKind.i64.wrap ((i:Int)+1)=((i+1:Nat):Int):=by rw[cA (by omega) (by omega)]; omega
  have hg:(jI s).getD (i:Int).toNat (Ty.aZ (.int .u8))=(s[i].toNat:Int):=by
   have e1:((s.map fun b=>(b.toNat:Int)):List Int).getD i 0=(s[i].toNat:Int):=by
    rw[List.getD_eq_getElem?_getD,List.getElem?_map,List.getElem?_eq_getElem hl]
    rfl
   exact e1
  rw[aM (show (i:Int)<(s.length:Int) by omega),cond_true,aw (by rw[aM (show (0:Int)≤(i:Int) by omega)]; rfl),aw (aM (by rw[Int.toNat_natCast,KO,Hy]; exact hl)),hg,step32 h hh,hw]
  refine (ih (i+1) _ (by omega) (by omega) (Zz h s[i])).trans ?_
  rw[List.drop_eq_getElem_cons hl,fnv_cons]
theorem sum_ok {R:Type} (s:ah) (hs:s.length≤1099511627785) (k:Int→Option R):uI s k=k ((fnvS s:Nat):Int):=by
 have e:uI s k=dM (Int.natAbs 2166136261+Int.natAbs (s.length:Int)+Int.natAbs 0+List.length (jI s)+64) ((2166136261:Nat):Int) s.length (s.length:Int) ((0:Nat):Int) (jI s) (fun y7=>k y7):=rfl
 rw[e,sum_loop s hs _ _ 0 _ (by omega) (by omega) (by decide),List.drop_zero]
 rfl
theorem shr4 (n:Nat):Int.fdiv (n:Int) (2 ^ (min 4 IntKind.u32.bits))=((n / 16:Nat):Int):=by
 show Int.fdiv (n:Int) 16=_
 rw[Int.fdiv_eq_ediv_of_nonneg _ (by decide)]
 omega
theorem and15u (n:Nat):IntKind.u32.wrap ((BitVec.ofInt IntKind.u32.bits (n:Int) &&& BitVec.ofInt IntKind.u32.bits 15).toNat:Int)=((n % 16:Nat):Int):=by
 have h2:(BitVec.ofInt IntKind.u32.bits 15).toNat=15:=by decide
 rw[BitVec.toNat_and,of32,h2]
 have h3:(n % 4294967296) &&& 15=(n % 4294967296) % 16:=Nat.and_two_pow_sub_one_eq_mod _ 4
 rw[h3,w32]
 omega
theorem in16 (n:Nat):(decide ((0:Int)≤((n % 16:Nat):Int))&&decide (((n % 16:Nat):Int)<(16:Int)))=true:=by
 rw[aM (by omega),aM (by omega)]; rfl
theorem seal_ok {R:Type} (s:ah) (hs:s.length≤1099511627776) (k:ah→Option R):eK s k=k (om s):=by
 have e:eK s k=IP uI s k:=rfl
 rw[e]
 unfold IP
 rw[sum_ok s (by omega)]
 have hH:=fnv_lt s 2166136261 (by decide)
 unfold om hex8
 unfold fnvS
 generalize fnvN s 2166136261=H at hH
 simp only[shr4,and15u,in16,cb,cond_true,Int.toNat_natCast]
 rw[aM (show s.length+1≤9223372036854775807 by omega),cond_true,aM (by simp only[List.length_append,List.length_map,List.length_cons,List.length_nil]; omega),cond_true]
 congr 1
 rw[List.append_assoc]
 congr 1
 simp only[List.map_cons,List.map_nil,Int.toNat_natCast,UInt8.ofNat_toNat,List.singleton_append,hxB,hxS,Nat.div_div_eq_div_mul]
theorem last_cases (s:ah):(Ee s 35 = -1∧∀x∈s,x≠35)∨∃i:Nat,∃h:i<s.length,Ee s 35=(i:Int)∧s[i]=35∧∀j (hj:j<s.length),i<j→s[j]≠35:=by
 have GC:∀j (h:j<s.length),(⟨s.toArray⟩:ByteArray).data[j]! = s[j]:=fun j h=>by
  show s.toArray[j]! = s[j]
  rw[getElem!_pos _ _ (by simpa using h)]
  simp
 have rC:(⟨s.toArray⟩:ByteArray).size=s.length:=by show s.toArray.size=_; simp
 have h35:∀x:UInt8,((x.toNat:Int)=((35:UInt8).toNat:Int))↔x=35:=fun x=>by
  constructor
  ·intro h; exact UInt8.toNat_inj.1 (by omega)
  ·rintro rfl; rfl
 unfold Ee
 rcases Go.Lib.lastIndexByte_spec ⟨s.toArray⟩ ((35:UInt8).toNat:Int)with ⟨h1,h2⟩|⟨i,h1,h2,h3,h4⟩
 ·refine .inl ⟨h1,fun x hx => ?_⟩
  obtain ⟨j,hj,rfl⟩:=List.getElem_of_mem hx
  have:=h2 j (by rw[rC]; exact hj)
  rw[GC j hj]at this
  exact fun e=>this ((h35 _).2 e)
 ·rw[rC]at h1
  refine .inr ⟨i,h1,h2,?_,fun j hj AL => ?_⟩
  ·rw[GC i h1]at h3
   exact (h35 _).1 h3
  ·have:=h4 j AL (by rw[rC]; exact hj)
   rw[GC j hj]at this
   exact fun e=>this ((h35 _).2 e)
theorem seal_at (t:ah):∃h:t.length<(om t).length,(om t)[t.length]=35∧∀j (hj:j<(om t).length),t.length<j→(om t)[j]≠35:=by
 have hl:=P1 t
 refine ⟨by omega,?_,fun j hj AL => ?_⟩
 ·simp[om]
 ·have hm:(om t)[j]∈hex8 (fnvS t):=by
   obtain ⟨m,rfl⟩:∃m,j=t.length+(m+1):=⟨j - t.length - 1,by omega⟩
   have e:(om t)[t.length+(m+1)]? = (hex8 (fnvS t))[m]? :=by
    unfold om
    rw[List.getElem?_append_right (by omega),Nat.add_sub_cancel_left,List.getElem?_cons_succ]
   rw[List.getElem?_eq_getElem hj]at e
   exact List.mem_of_getElem? e.symm
  exact hex8_ne _ _ hm
theorem open_ok {R:Type} (s:ah) (hs:s.length≤1099511627776) (k:ah→Int→Option R):ir s k=match Ni s with|some t=>k t 0|none=>k [] 60:=by
 have e:ir s k=IQ eK s k:=rfl
 rw[e]
 unfold IQ
 rw[aw (aM (by omega))]
 rcases last_cases s with ⟨h1,h2⟩|⟨i,hi,h1,h2,h3⟩
 ·rw[h1]
  have:Ni s=none:=by
   cases ho:Ni s with
   | none=>rfl
   | some t =>
    exfalso
    have e:=open_some ho
    obtain ⟨g1,g2,_⟩:=seal_at t
    exact h2 35 (by rw[e,←g2]; exact List.getElem_mem _) rfl
  rw[this]
  rfl
 ·rw[h1]
  rw[bJ (show ¬(i:Int)<0 by omega),cond_false]
  have c1:(decide ((0:Int)≤(i:Int))&&decide ((i:Int)≤(s.length:Int)))=true:=by rw[aM (by omega),aM (by omega)]; rfl
  have c2:decide ((0:Int)≤(i:Int))=true:=aM (by omega)
  rw[aw c1,aw c2,Int.toNat_natCast,List.drop_zero,Nat.sub_zero,seal_ok _ (by rw[List.length_take]; omega)]
  by_cases hq:om (s.take i)=s
  ·have b1:(!(om (s.take i)==s))=false:=by simp[hq]
   have ho:Ni s=some (s.take i):=by rw[←hq,open_seal,hq]
   rw[b1,cond_false,aw c1,aw c2,ho]
  ·have b1:(!(om (s.take i)==s))=true:=by simpa using hq
   rw[b1,cond_true]
   have ho:Ni s=none:=by
    cases ho:Ni s with
    | none=>rfl
    | some t =>
     exfalso
     have e:=open_some ho
     obtain ⟨g1,g2,g3⟩:=seal_at t
     have hit:i=t.length:=by
      subst e
      rcases Nat.lt_trichotomy i t.length with h|h|h
      ·exact (h3 t.length g1 h g2).elim
      ·exact h
      ·exact (g3 i hi h h2).elim
     apply hq
     rw[e,hit]
     congr 1
     unfold om
     simp
   rw[ho]
theorem str_ok {R:Type} (s:ah) (k:Json→Option R):uT s k=k (strV s):=rfl
theorem yes_ok {R:Type} (b:Bool) (k:Json→Option R):uU b k=k (WR b):=by cases b <;> rfl
theorem arr_ok {R:Type} (l:List Json) (hj:Pu.FF (R6 l)) (k:Json→Option R):eh l k=k (R6 l):=by
 unfold eh Ot
 exact Pu.YN _ hj _
theorem MJ {n:Int} (h:cY n=true):Pu.FF (Bn n):=KZ _ 2 (Gz h (by omega)) (by simp[Px,Py,Bn])
theorem jok_yes (b:Bool):Pu.FF (WR b):=KZ _ 2 (right_yes b (by omega)) (by simp[Px,Py,WR])
theorem jok_str {s:ah} (h:fW s=true) (hl:s.length≤10000000000):Pu.FF (strV s):=KZ _ 2 (right_str h (by omega)) (by simp[Px,Py,strV,hl])
theorem jok_arr {l:List Json} (hl:l.length≤1099511627776) (h:∀x∈l,Pu.FF x):Pu.FF (R6 l) :=
 Pu.jok_mk (by unfold xF; decide) (by unfold xF; decide) (by unfold xF; decide) (by simp) (by simp) (by simp) hl h
theorem jok_part {n:ah} (hn:n=KV∨n=KW) {a b:Int} (ha:cY a=true) (hb:cY b=true) (r:Bool):Pu.FF (KY n a b r):=by
 refine Pu.jok_mk (by unfold xF; decide) (by unfold xF; decide) (by unfold xF; decide) (by simp) (by simp) (fun s hs => ?_) (by simp) (fun y hy => ?_)
 ·simp only[List.mem_cons,List.not_mem_nil,or_false]at hs
  rcases hs with rfl|rfl|rfl
  ·rcases hn with rfl|rfl <;> decide
  ·decide
  ·decide
 ·simp only[List.mem_cons,List.not_mem_nil,or_false]at hy
  rcases hy with rfl|rfl|rfl
  ·exact MJ ha
  ·exact MJ hb
  ·exact jok_yes r
theorem mk_part {n:ah} (hn:n=KV∨n=KW) (x y z:Json):Pu.mk [n,KX,NK] [x,y,z] [] []=([n,KX,NK], [x,y,z]):=by
 rcases hn with rfl|rfl <;> rfl
theorem part_ok {R:Type} {n:ah} (hn:n=KV∨n=KW) {a b:Int} (ha:cY a=true) (hb:cY b=true) (r:Bool) (k:Json→Option R):gG n a b r k=k (KY n a b r):=by
 unfold gG LA
 rw[ZF ha,ZF hb,yes_ok]
 refine (Pu.make_eq _ _ (by simp) (fun y hy => ?_) _).trans ?_
 ·simp only[List.mem_cons,List.not_mem_nil,or_false]at hy
  rcases hy with rfl|rfl|rfl
  ·exact MJ ha
  ·exact MJ hb
  ·exact jok_yes r
 ·have e:=mk_part hn (Bn a) (Bn b) (WR r)
  show k ⟨7,⟨0,0⟩, [],(Pu.mk [n,KX,NK] [Bn a,Bn b,WR r] [] []).1,(Pu.mk [n,KX,NK] [Bn a,Bn b,WR r] [] []).2⟩=_
  rw[e]
  rfl
theorem eachS_loop {R:Type} (l:List Stop) (hl:l.length≤1000) (hk:∀x∈l,Va x) (e0:List Json→Int→Int→Int→ah→Option R):∀(F i:Nat) (acc:List Json),i≤l.length→l.length - i<F→acc.length≤i →
  bD F acc l (l.length:Int) (i:Int) 0 0 0 [] e0=e0 (acc++(l.drop i).map Nj) 0 0 0 []:=by
 intro F
 induction F with
 | zero=>intro i acc _ hF; omega
 | succ F ih =>
  intro i acc hi hF hacc
  show kv fQ (fun x0 x1 x2 x3 x4 x5 x6 x7=>bD F x0 x1 x2 x3 x4 x5 x6 x7 e0) acc l (l.length:Int) (i:Int) 0 0 0 [] e0=_
  unfold kv
  by_cases h:i<l.length
  ·have ga:l.getD (i:Int).toNat (Ty.aZ .stop)=l[i]:=getD_at h _
   have hp:∀k:Json→Option R,fQ l[i] k=k (Nj l[i]):=fun k=>part_ok (.inl rfl) (hk _ (List.getElem_mem h)).1 (hk _ (List.getElem_mem h)).2 _ k
   rw[aM (show (i:Int)<(l.length:Int) by omega),cond_true,aw (kX i),ga,hp,aw (aM (by omega)),CI h (by omega)]
   dsimp only
   rw[ih (i+1) _ (by omega) (by omega) (by simp; omega),List.drop_eq_getElem_cons h,List.map_cons,List.append_assoc]
   rfl
  ·rw[bJ (show ¬(i:Int)<(l.length:Int) by omega),cond_false,List.drop_eq_nil_of_le (by omega),List.map_nil,List.append_nil]
theorem eachW_loop {R:Type} (l:List aC.Way) (hl:l.length≤1000) (hk:∀x∈l,wayOk x) (e0:List Json→Int→Int→Int→ah→Option R):∀(F i:Nat) (acc:List Json),i≤l.length→l.length - i<F→acc.length≤i →
  bH F acc l (l.length:Int) (i:Int) 0 0 0 [] e0=e0 (acc++(l.drop i).map WS) 0 0 0 []:=by
 intro F
 induction F with
 | zero=>intro i acc _ hF; omega
 | succ F ih =>
  intro i acc hi hF hacc
  show lx fR (fun x0 x1 x2 x3 x4 x5 x6 x7=>bH F x0 x1 x2 x3 x4 x5 x6 x7 e0) acc l (l.length:Int) (i:Int) 0 0 0 [] e0=_
  unfold lx
  by_cases h:i<l.length
  ·have ga:l.getD (i:Int).toNat (Ty.aZ .pD)=l[i]:=getD_at h _
   have hp:∀k:Json→Option R,fR l[i] k=k (WS l[i]):=fun k=>part_ok (.inr rfl) (hk _ (List.getElem_mem h)).1 (hk _ (List.getElem_mem h)).2 _ k
   rw[aM (show (i:Int)<(l.length:Int) by omega),cond_true,aw (kX i),ga,hp,aw (aM (by omega)),CI h (by omega)]
   dsimp only
   rw[ih (i+1) _ (by omega) (by omega) (by simp; omega),List.drop_eq_getElem_cons h,List.map_cons,List.append_assoc]
   rfl
  ·rw[bJ (show ¬(i:Int)<(l.length:Int) by omega),cond_false,List.drop_eq_nil_of_le (by omega),List.map_nil,List.append_nil]
theorem jok_stops {l:List Stop} (hl:l.length≤1000) (hk:∀x∈l,Va x):Pu.FF (R6 (l.map Nj)):=jok_arr (by simp; omega) fun x hx=>by
 obtain ⟨y,hy,rfl⟩:=List.mem_map.1 hx
 exact jok_part (.inl rfl) (hk y hy).1 (hk y hy).2 _
theorem jok_ways {l:List aC.Way} (hl:l.length≤1000) (hk:∀x∈l,wayOk x):Pu.FF (R6 (l.map WS)):=jok_arr (by simp; omega) fun x hx=>by
 obtain ⟨y,hy,rfl⟩:=List.mem_map.1 hx
 exact jok_part (.inr rfl) (hk y hy).1 (hk y hy).2 _
theorem eachS_ok {R:Type} (l:List Stop) (hl:l.length≤1000) (hk:∀x∈l,Va x) (k:Json→Option R):dW l k=k (R6 (l.map Nj)):=by
 unfold dW tK
 refine (eachS_loop l hl hk _ _ 0 [] (by omega) (by omega) (by simp)).trans ?_
 rw[List.drop_zero,List.nil_append]
 exact arr_ok _ (jok_stops hl hk) _
theorem eachW_ok {R:Type} (l:List aC.Way) (hl:l.length≤1000) (hk:∀x∈l,wayOk x) (k:Json→Option R):eB l k=k (R6 (l.map WS)):=by
 unfold eB u4
 refine (eachW_loop l hl hk _ _ 0 [] (by omega) (by omega) (by simp)).trans ?_
 rw[List.drop_zero,List.nil_append]
 exact arr_ok _ (jok_ways hl hk) _
theorem mk_order (a b c d e f:Json):Pu.mk R8 [a,b,c,d,e,f] [] []=(R8, [a,b,c,d,e,f]):=by kernel_rfl
theorem items_jok {o:Order} (hk:OkO o):∀y∈ZI o,Pu.FF y:=by
 obtain ⟨hv,hv2⟩:=R9 hk.name
 obtain ⟨m1,m2,m3⟩:=hk.many
 intro y hy
 simp only[ZI,List.mem_cons,List.not_mem_nil,or_false]at hy
 rcases hy with rfl|rfl|rfl|rfl|rfl|rfl
 ·exact MJ hk.header
 ·exact jok_str hv (by omega)
 ·exact MJ hk.order
 ·exact MJ hk.update
 ·exact jok_stops (by omega) hk.nodes
 ·exact jok_ways (by omega) hk.bK
theorem order_lenJ {o:Order} (hk:OkO o):Px (o9 o)=true:=(P0 _ 1 (PB hk) (by have:=P3 hk; omega)).1
theorem lay_ok {R:Type} (o:Order) (hn:o.nodes.length≤4000000000000) (k:ah→Int→Option R):gd o k=if n8 o then k (om (cF (o9 o))) 0 else k [] 1:=by
 unfold gd Pc
 rw[JT o hn]
 cases h:n8 o with
 | false=>rfl
 | true =>
  have hk:=P2 h
  obtain ⟨m1,m2,m3⟩:=hk.many
  have hlen:=P3 hk
  rw[Bool.not_true,cond_false,ZF hk.header,str_ok,ZF hk.order,ZF hk.update,eachS_ok _ (by omega) hk.nodes,eachW_ok _ (by omega) hk.bK]
  refine (Pu.make_eq R8 (ZI o) (by decide) (items_jok hk) _).trans ?_
  have e:Pu.mk R8 (ZI o) [] []=(R8,ZI o):=mk_order _ _ _ _ _ _
  rw[e]
  refine (print_json (o9 o) (PB hk) (order_lenJ hk) (by omega) _).trans ?_
  rw[seal_ok _ (by omega)]
  rfl
theorem c_sHeader:([104,101,97,100,101,114,73,100]:ah)=Gq:=rfl
theorem c_sSerial:([115,101,114,105,97,108,78,117,109,98,101,114]:ah)=zQ:=rfl
theorem c_sOrder:([111,114,100,101,114,73,100]:ah)=MG:=rfl
theorem c_sUpdate:([111,114,100,101,114,85,112,100,97,116,101,73,100]:ah)=Gr:=rfl
theorem c_sNodes:([110,111,100,101,115]:ah)=MH:=rfl
theorem c_sEdges:([101,100,103,101,115]:ah)=R7:=rfl
def tN (v:Json) (s:ah) (b:Bool):Int×Bool:=match vN v s with|some n=>(n,b)|none=>(0,true)
def tF (v:Json) (s:ah) (b:Bool):Bool×Bool:=match JS v s with|some n=>(n,b)|none=>(false,true)
def tL (v:Json) (s:ah) (b:Bool):List Json×Bool:=match Fo v s with|some n=>(n,b)|none=>([],true)
theorem tN_t (v:Json) (s:ah):(tN v s true).2=true:=by unfold tN; split <;> rfl
theorem tF_t (v:Json) (s:ah):(tF v s true).2=true:=by unfold tF; split <;> rfl
theorem tL_t (v:Json) (s:ah):(tL v s true).2=true:=by unfold tL; split <;> rfl
theorem MK {R:Type} (v:Json) (hv:Pu.FF v) (s:ah) (b:Bool) (k:Int→Bool→Option R):aO v s b k=k (tN v s b).1 (tN v s b).2:=by
 unfold aO tW
 simp only[Json.eta]
 rw[Pu.Num_eq v hv]
 unfold tN vN
 cases (Pu.Wy v s).bind Pu.YO <;> cases b <;> rfl
theorem tflag_ok {R:Type} (v:Json) (hv:Pu.FF v) (s:ah) (b:Bool) (k:Bool→Bool→Option R):bg v s b k=k (tF v s b).1 (tF v s b).2:=by
 unfold bg sR
 simp only[Json.eta]
 rw[Pu.Flag_eq v hv]
 unfold tF JS
 cases (Pu.Wy v s).bind Pu.YP <;> cases b <;> rfl
theorem tlist_ok {R:Type} (v:Json) (hv:Pu.FF v) (s:ah) (b:Bool) (k:List Json→Bool→Option R):bG v s b k=k (tL v s b).1 (tL v s b).2:=by
 unfold bG sH
 simp only[Json.eta]
 rw[Pu.List_eq v hv]
 unfold tL Fo
 cases (Pu.Wy v s).bind Pu.listF <;> cases b <;> rfl
theorem list_jok {v:Json} (hv:Pu.FF v) {s:ah} {l:List Json} (h:Fo v s=some l):l.length≤1099511627776∧∀x∈l,Pu.FF x:=by
 unfold Fo at h
 cases hq:Pu.Wy v s with
 | none=>rw[hq]at h; cases h
 | some x =>
  rw[hq,Option.bind_some]at h
  have hx:=Pu.at7_ok hv hq
  unfold Pu.listF at h
  split at h
  ·cases h; exact ⟨hx.items,fun y hy=>hx.item hy⟩
  ·cases h
theorem tL_jok {v:Json} (hv:Pu.FF v) (s:ah) (b:Bool):(tL v s b).1.length≤1099511627776∧∀x∈(tL v s b).1,Pu.FF x:=by
 unfold tL
 split
 ·rename_i h; exact list_jok hv h
 ·simp
theorem text_get {v:Json} (hv:Pu.FF v) (s:ah):∃(x:ah) (b:Bool),(∀ {R:Type} (k:ah→Bool→Option R),fC v s k=k x b)∧Fl v s=if b then some x else none:=by
 cases hq:Fl v s with
 | none=>exact ⟨[],false,fun k=>by rw[Pu.Text_eq v hv]; unfold Fl at hq; rw[hq],rfl⟩
 | some x=>exact ⟨x,true,fun k=>by rw[Pu.Text_eq v hv]; unfold Fl at hq; rw[hq],rfl⟩
def goS:List Json→Bool→List Stop→Bool×List Stop
 | [],b,acc=>(b,acc)
 | x::l,b,acc=>goS l (tF x NK (tN x KX (tN x KV b).2).2).2 (acc ++ [⟨(tN x KV b).1,(tN x KX (tN x KV b).2).1,(tF x NK (tN x KX (tN x KV b).2).2).1⟩])
def goW:List Json→Bool→List aC.Way→Bool×List aC.Way
 | [],b,acc=>(b,acc)
 | x::l,b,acc=>goW l (tF x NK (tN x KX (tN x KW b).2).2).2 (acc ++ [⟨(tN x KW b).1,(tN x KX (tN x KW b).2).1,(tF x NK (tN x KX (tN x KW b).2).2).1⟩])
theorem T2:∀(l:List Json) (acc:List Stop),(goS l true acc).1=true
 | [],_=>rfl
 | x::l,acc=>by simp only[goS,tN_t,tF_t]; exact T2 l _
theorem Ra:∀(l:List Json) (acc:List aC.Way),(goW l true acc).1=true
 | [],_=>rfl
 | x::l,acc=>by simp only[goW,tN_t,tF_t]; exact Ra l _
theorem ML {v:Json} {s:ah} (h:vN v s=none) (b:Bool):tN v s b=(0,true):=by unfold tN; rw[h]
theorem xo {v:Json} {s:ah} {n:Int} (h:vN v s=some n) (b:Bool):tN v s b=(n,b):=by unfold tN; rw[h]
theorem tF_none {v:Json} {s:ah} (h:JS v s=none) (b:Bool):tF v s b=(false,true):=by unfold tF; rw[h]
theorem tF_some {v:Json} {s:ah} {n:Bool} (h:JS v s=some n) (b:Bool):tF v s b=(n,b):=by unfold tF; rw[h]
theorem tL_none {v:Json} {s:ah} (h:Fo v s=none) (b:Bool):tL v s b=([],true):=by unfold tL; rw[h]
theorem tL_some {v:Json} {s:ah} {n:List Json} (h:Fo v s=some n) (b:Bool):tL v s b=(n,b):=by unfold tL; rw[h]
theorem GA {α:Type} {f:Json→Option α} {x:Json} {l:List Json} (h:f x=none):MI f (x::l)=none:=by
 unfold MI
 rw[h]
theorem allT_some {α:Type} {f:Json→Option α} {x:Json} {l:List Json} {y:α} (h:f x=some y):MI f (x::l)=(MI f l).map (y :: ·):=by
 rw[MI,h]
 cases MI f l <;> rfl
theorem goS_ok:∀(l:List Json) (acc:List Stop),match MI I3 l with|some ss=>goS l false acc=(false,acc++ss)|none=>(goS l false acc).1=true
 | [],acc=>by simp[MI,goS]
 | x::l,acc=>by
  have ih:=goS_ok l
  cases h1:vN x KV with
  | none =>
   have e:I3 x=none:=by unfold I3; rw[h1]
   rw[GA e]
   simp only[goS,ML h1,tN_t,tF_t]
   exact T2 _ _
  | some a =>
  cases h2:vN x KX with
  | none =>
   have e:I3 x=none:=by unfold I3; rw[h1,h2]
   rw[GA e]
   simp only[goS,xo h1,ML h2,tF_t]
   exact T2 _ _
  | some b =>
  cases h3:JS x NK with
  | none =>
   have e:I3 x=none:=by unfold I3; rw[h1,h2,h3]
   rw[GA e]
   simp only[goS,xo h1,xo h2,tF_none h3]
   exact T2 _ _
  | some r =>
   have e:I3 x=some ⟨a,b,r⟩:=by unfold I3; rw[h1,h2,h3]
   rw[allT_some e]
   simp only[goS,xo h1,xo h2,tF_some h3]
   have:=ih (acc ++ [⟨a,b,r⟩])
   cases hA:MI I3 l with
   | none=>rw[hA]at this; exact this
   | some ss=>rw[hA]at this; simpa [List.append_assoc]using this
theorem goS_len:∀(l:List Json) (b:Bool) (acc:List Stop),(goS l b acc).2.length=acc.length+l.length
 | [],_,_=>rfl
 | x::l,b,acc=>by
  simp only[goS]
  rw[goS_len l]
  simp only[List.length_append,List.length_cons,List.length_nil]
  omega
theorem goW_ok:∀(l:List Json) (acc:List aC.Way),match MI TZ l with|some ss=>goW l false acc=(false,acc++ss)|none=>(goW l false acc).1=true
 | [],acc=>by simp[MI,goW]
 | x::l,acc=>by
  have ih:=goW_ok l
  cases h1:vN x KW with
  | none =>
   have e:TZ x=none:=by unfold TZ; rw[h1]
   rw[GA e]
   simp only[goW,ML h1,tN_t,tF_t]
   exact Ra _ _
  | some a =>
  cases h2:vN x KX with
  | none =>
   have e:TZ x=none:=by unfold TZ; rw[h1,h2]
   rw[GA e]
   simp only[goW,xo h1,ML h2,tF_t]
   exact Ra _ _
  | some b =>
  cases h3:JS x NK with
  | none =>
   have e:TZ x=none:=by unfold TZ; rw[h1,h2,h3]
   rw[GA e]
   simp only[goW,xo h1,xo h2,tF_none h3]
   exact Ra _ _
  | some r =>
   have e:TZ x=some ⟨a,b,r⟩:=by unfold TZ; rw[h1,h2,h3]
   rw[allT_some e]
   simp only[goW,xo h1,xo h2,tF_some h3]
   have:=ih (acc ++ [⟨a,b,r⟩])
   cases hA:MI TZ l with
   | none=>rw[hA]at this; exact this
   | some ss=>rw[hA]at this; simpa [List.append_assoc]using this
theorem takeS_loop {R:Type} (ok:Bool) (l:List Json) (hl:l.length≤1099511627776) (hj:∀x∈l,Pu.FF x) (v:Json) (h:Int) (s:ah) (n u:Int) (e0:Bool→Int→ah→Int→Int→Json→Bool→Int→ah→Int→Int→List Stop→Option R):∀(F i:Nat) (b:Bool) (acc:List Stop),i≤l.length→l.length - i<F→acc.length≤i →
  ck F ok l (l.length:Int) (i:Int) 0 [] 0 0 v b h s n u acc e0=e0 ok 0 [] 0 0 v (goS (l.drop i) b acc).1 h s n u (goS (l.drop i) b acc).2:=by
 intro F
 induction F with
 | zero=>intro i b acc _ hF; omega
 | succ F ih =>
  intro i b acc hi hF hacc
  show vG _ _ (fun x0 x1 x2 x3 x4 x5 x6 x7 x8 x9 Ut Nq CJ HG Ls=>ck F x0 x1 x2 x3 x4 x5 x6 x7 x8 x9 Ut Nq CJ HG Ls e0) ok l (l.length:Int) (i:Int) 0 [] 0 0 v b h s n u acc e0=_
  unfold vG
  by_cases hi2:i<l.length
  ·have ga:l.getD (i:Int).toNat (Ty.aZ .json)=l[i]:=getD_at hi2 _
   have hx:=hj _ (List.getElem_mem hi2)
   rw[aM (show (i:Int)<(l.length:Int) by omega),cond_true,aw (kX i),ga]
   simp only[Json.eta]
   rw[MK _ hx,MK _ hx,tflag_ok _ hx,aw (aM (by omega)),CI hi2 (by omega)]
   rw[ih (i+1) _ _ (by omega) (by omega) (by simp; omega),List.drop_eq_getElem_cons hi2]
   rfl
  ·rw[bJ (show ¬(i:Int)<(l.length:Int) by omega),cond_false,List.drop_eq_nil_of_le (by omega)]
   simp only[Json.eta]
   rfl
theorem takeW_loop {R:Type} (ok:Bool) (l:List Json) (hl:l.length≤1099511627776) (hj:∀x∈l,Pu.FF x) (h:Int) (s:ah) (n u:Int) (ss:List Stop) (e0:Bool→Int→ah→Int→Int→Bool→Int→ah→Int→Int→List Stop→List aC.Way→Option R):∀(F i:Nat) (b:Bool) (acc:List aC.Way),i≤l.length→l.length - i<F→acc.length≤i →
  cm F ok l (l.length:Int) (i:Int) 0 [] 0 0 b h s n u ss acc e0=e0 ok 0 [] 0 0 (goW (l.drop i) b acc).1 h s n u ss (goW (l.drop i) b acc).2:=by
 intro F
 induction F with
 | zero=>intro i b acc _ hF; omega
 | succ F ih =>
  intro i b acc hi hF hacc
  show vH _ _ (fun x0 x1 x2 x3 x4 x5 x6 x7 x8 x9 Ut Nq CJ HG Ls=>cm F x0 x1 x2 x3 x4 x5 x6 x7 x8 x9 Ut Nq CJ HG Ls e0) ok l (l.length:Int) (i:Int) 0 [] 0 0 b h s n u ss acc e0=_
  unfold vH
  by_cases hi2:i<l.length
  ·have ga:l.getD (i:Int).toNat (Ty.aZ .json)=l[i]:=getD_at hi2 _
   have hx:=hj _ (List.getElem_mem hi2)
   rw[aM (show (i:Int)<(l.length:Int) by omega),cond_true,aw (kX i),ga]
   simp only[Json.eta]
   rw[MK _ hx,MK _ hx,tflag_ok _ hx,aw (aM (by omega)),CI hi2 (by omega)]
   rw[ih (i+1) _ _ (by omega) (by omega) (by simp; omega),List.drop_eq_getElem_cons hi2]
   rfl
  ·rw[bJ (show ¬(i:Int)<(l.length:Int) by omega),cond_false,List.drop_eq_nil_of_le (by omega)]
   rfl
def outO {R:Type} (k:Order→Int→Option R):Except Int Order→Option R
 | .ok o=>k o 0
 | .error e=>k ⟨0, [],0,0, [], []⟩ e
theorem take_ok {R:Type} (s:ah) (hs:s.length≤1099511627776) (k:Order→Int→Option R):nk s k=outO k (takeO s):=by
 unfold nk Mk takeO
 rw[open_ok s hs]
 cases Ni s with
 | none=>rfl
 | some t =>
 show fB t _=_
 rw[jparse_ok]
 by_cases he:(tj t).2.1=0
 rotate_left
 ·have c:((tj t).2.1 != 0)=true:=by simpa using he
  rw[c,cond_true]
  simp only[if_pos he,ne_eq,not_true_eq_false,not_false_eq_true,he,if_true]
  rfl
 have c:((tj t).2.1 != 0)=false:=by simpa using he
 rw[c,cond_false]
 have hv:=parse_jok he
 simp only[he,ne_eq,not_true_eq_false,if_false]
 generalize (tj t).1=v at hv ⊢
 obtain ⟨nm,okb,hT,hTs⟩:=text_get hv zQ
 simp only[Json.eta,c_sHeader,c_sSerial,c_sOrder,c_sUpdate,c_sNodes,c_sEdges]
 refine (hT _).trans ?_
 rw[MK v hv,MK v hv,MK v hv,tlist_ok v hv]
 have hN:=tL_jok hv MH (tN v Gr (tN v MG (tN v Gq false).2).2).2
 refine (takeS_loop okb _ hN.1 hN.2 v _ nm _ _ _ _ 0 _ [] (by omega) (by omega) (by simp)).trans ?_
 rw[tlist_ok v hv]
 generalize hGS:goS ((tL v MH (tN v Gr (tN v MG (tN v Gq false).2).2).2).1.drop 0) (tL v MH (tN v Gr (tN v MG (tN v Gq false).2).2).2).2 []=GS
 have hE:=tL_jok hv R7 GS.1
 refine (takeW_loop okb _ hE.1 hE.2 _ nm _ _ _ _ _ 0 _ [] (by omega) (by omega) (by simp)).trans ?_
 rw[List.drop_zero]at hGS ⊢
 have hlen:GS.2.length≤4000000000000:=by
  rw[←hGS,goS_len]
  have:=hN.1
  simp only[List.length_nil]
  omega
 rw[JT _ hlen]
 have dead:∀ {b:Bool} {x y:Option R},b=true→(bif b then x else y)=x:=fun e=>by rw[e]; rfl
 unfold orderT
 cases h1:vN v Gq with
 | none =>
  refine (dead ?_).trans rfl
  rw[←hGS]
  simp only[ML h1,tN_t,tL_t,T2,Ra]
 | some a1 =>
 cases h2:vN v MG with
 | none =>
  refine (dead ?_).trans ?_
  ·rw[←hGS]
   simp only[ML h2,tN_t,tL_t,T2,Ra]
  ·cases Fl v zQ <;> rfl
 | some a2 =>
 cases h3:vN v Gr with
 | none =>
  refine (dead ?_).trans ?_
  ·rw[←hGS]
   simp only[ML h3,tN_t,tL_t,T2,Ra]
  ·cases Fl v zQ <;> rfl
 | some a3 =>
 cases h4:Fo v MH with
 | none =>
  refine (dead ?_).trans ?_
  ·rw[←hGS]
   simp only[tL_none h4,tN_t,tL_t,T2,Ra]
  ·cases Fl v zQ <;> rfl
 | some a4 =>
 cases h5:Fo v R7 with
 | none =>
  refine (dead ?_).trans ?_
  ·simp only[tL_none h5,tN_t,tL_t,T2,Ra]
  ·cases Fl v zQ <;> rfl
 | some a5 =>
 simp only[xo h1,xo h2,xo h3,tL_some h4]at hGS ⊢
 have hS:=goS_ok a4 []
 cases h6:MI I3 a4 with
 | none =>
  rw[h6]at hS
  refine (dead ?_).trans ?_
  ·rw[←hGS,tL_some h5,hS]
   exact Ra _ _
  ·cases Fl v zQ <;> simp only[h6] <;> rfl
 | some ss =>
 rw[h6]at hS
 simp only[List.nil_append]at hS
 rw[hS]at hGS
 subst hGS
 simp only[tL_some h5]
 have hW:=goW_ok a5 []
 cases h7:MI TZ a5 with
 | none =>
  rw[h7]at hW
  refine (dead hW).trans ?_
  cases Fl v zQ <;> simp only[h6,h7] <;> rfl
 | some ws =>
 rw[h7]at hW
 simp only[List.nil_append]at hW
 rw[hW,hTs]
 cases okb with
 | false=>rfl
 | true =>
  simp only[cond_false,Bool.not_true,if_true,h6,h7]
  cases n8 ⟨a1,nm,a2,a3,ss,ws⟩ <;> rfl
theorem PC {R:Type} (c n:Int) (hc:xF c) (h0:0<n) (k:Int→Option R):cW c n k=k (zB c n):=pick_rawI c n hc h0 k
theorem zs_getD (l:ah) (i:Nat) (d:Int) (h:i<l.length):(zs l).getD i d=((l.getD i 0).toNat:Int):=by
 rw[getD_at (by rw[Hy]; exact h),getD_at h,List.getElem_map]
theorem zs_set (l:ah) (i:Nat) (b:UInt8):(zs l).set i (b.toNat:Int)=zs (l.set i b):=by
 unfold zs
 rw[List.map_set]
theorem fitB_at (b:UInt8):((([97,98,99,120,121,122,65,66,67,88,89,90,48,49,56,57,95,46,58,45]:ah).getD (Int.tmod (IntKind.i64.wrap (b.toNat:Int)) 20).toNat 0).toNat:Int)=((fitB b).toNat:Int)∧0≤Int.tmod (IntKind.i64.wrap (b.toNat:Int)) 20∧Int.tmod (IntKind.i64.wrap (b.toNat:Int)) 20<20:=by
 have h8:=UInt8.toNat_lt b
 have e:Int.tmod (b.toNat:Int) 20=((b.toNat % 20:Nat):Int):=by
  rw[Int.tmod_eq_emod_of_nonneg (by omega)]
  omega
 rw[cA (by omega) (by omega),e]
 exact ⟨rfl,by omega,by omega⟩
theorem fit07_loop {R:Type} (s:ah) (hs:s.length≤15) (e0:Nat→List Int→Option R):∀(F j:Nat),j≤s.length→s.length - j<F →
  dy F (s.length+1) ((j+1:Nat):Int) (zs (CH s j)) e0=e0 (s.length+1) (zs (CH s s.length)):=by
 intro F
 induction F with
 | zero=>intro j _ hF; omega
 | succ F ih =>
  intro j hj hF
  show zN (fun x0 x1 x2=>dy F x0 x1 x2 e0) (s.length+1) ((j+1:Nat):Int) (zs (CH s j)) e0=_
  unfold zN
  by_cases h:j<s.length
  ·have hl:(zs (CH s j)).length=s.length+1:=by rw[Hy,P5]
   have hg:(zs (CH s j)).getD ((j+1:Nat):Int).toNat (Ty.aZ (.int .u8))=(s[j].toNat:Int):=by
    refine (zs_getD _ (j+1) _ (by rw[P5]; omega)).trans ?_
    rw[fitSt_get s j h]
   obtain ⟨f1,f2,f3⟩:=fitB_at s[j]
   have hset:(zs (CH s j)).set ((j+1:Nat):Int).toNat ((fitB s[j]).toNat:Int)=zs (CH s (j+1)):=by
    rw[Int.toNat_natCast,zs_set,fitSt_set s j h]
   have c1:decide (((j+1:Nat):Int)<((s.length+1:Nat):Int))=true:=aM (by omega)
   have c2:(decide ((0:Int)≤((j+1:Nat):Int))&&true)=true:=kX _
   have c3:decide (((j+1:Nat):Int).toNat<(zs (CH s j)).length)=true:=aM (by rw[hl,Int.toNat_natCast]; omega)
   rw[c1,cond_true,aw c2,aw c3,hg,f1,aw (by rw[aM f2,aM f3]; rfl),aw c2,aw c3,hset,CI (show j+1<s.length+1 by omega) (by omega)]
   exact ih (j+1) (by omega) (by omega)
  ·have e:j=s.length:=by omega
   rw[bJ (show ¬((j+1:Nat):Int)<((s.length+1:Nat):Int) by omega),cond_false,e]
theorem fit07 {R:Type} (s:ah) (hs:s.length≤1099511627776) (k:ah→Option R):k6 s k=k (fitN s):=by
 unfold k6 Pm
 have hm:(min (s.length:Int) 15)=((min s.length 15:Nat):Int):=by omega
 have ht:(s.drop 0).take ((min (s.length:Int) 15).toNat - 0)=s.take 15:=by
  rw[hm,List.drop_zero,Int.toNat_natCast,Nat.sub_zero]
  rcases Nat.le_total s.length 15 with h|h
  ·rw[Nat.min_eq_left h,List.take_length,List.take_of_length_le h]
  ·rw[Nat.min_eq_right h]
 rw[aw (by rw[hm,aM (by omega),aM (by omega)]; rfl),aw (by rw[hm]; exact aM (by omega)),ht]
 have hl:(s.take 15).length≤15:=by rw[List.length_take]; omega
 rw[aw (aM (by omega))]
 have e0:([110]:ah)++s.take 15=CH (s.take 15) 0:=by simp[CH]
 rw[e0,P5]
 refine (fit07_loop (s.take 15) hl _ _ 0 (by omega) (by rw[KO,Hy,P5]; omega)).trans ?_
 rw[fitSt_end]
 show k (vO (zs (fitN s)))=_
 rw[vL]
theorem rsameS_loop {R:Type} (a b:Order) (hl:a.nodes.length=b.nodes.length) (ha:a.nodes.length≤1099511627776) (e0:Order→Order→Option R) (e1:Bool→Order→Order→Option R):∀(F i:Nat),i≤a.nodes.length→a.nodes.length - i<F →
  cx F (i:Int) a b e0 e1=bif eqS (a.nodes.drop i) (b.nodes.drop i)then e0 a b else e1 false a b:=by
 intro F
 induction F with
 | zero=>intro i _ hF; omega
 | succ F ih =>
  intro i hi hF
  show xl (fun x0 x1 x2=>cx F x0 x1 x2 e0 e1) (i:Int) a b e0 e1=_
  unfold xl
  by_cases h:i<a.nodes.length
  ·have ga:a.nodes.getD (i:Int).toNat (Ty.aZ .stop)=a.nodes[i]:=getD_at h _
   have gb:b.nodes.getD (i:Int).toNat (Ty.aZ .stop)=b.nodes[i]:=getD_at (by omega) _
   rw[aM (show (i:Int)<(a.nodes.length:Int) by omega),cond_true,aw (kX i),aw (K4 (show i<b.nodes.length by omega)),ga,gb,CI h (by omega)]
   dsimp only
   rw[ih (i+1) (by omega) (by omega),List.drop_eq_getElem_cons h,List.drop_eq_getElem_cons (show i<b.nodes.length by omega),uk]
   simp only[eqS]
   cases (a.nodes[i].node==b.nodes[i].node&&(a.nodes[i].seq==b.nodes[i].seq&&(a.nodes[i].bO==b.nodes[i].bO&&true))) <;> rfl
  ·rw[bJ (show ¬(i:Int)<(a.nodes.length:Int) by omega),cond_false,List.drop_eq_nil_of_le (by omega),List.drop_eq_nil_of_le (by omega)]
   rfl
theorem rsameW_loop {R:Type} (a b:Order) (hl:a.bK.length=b.bK.length) (ha:a.bK.length≤1099511627776) (e0:Option R) (e1:Bool→Option R):∀(F i:Nat),i≤a.bK.length→a.bK.length - i<F →
  cy F (i:Int) a b e0 e1=bif eqW (a.bK.drop i) (b.bK.drop i)then e0 else e1 false:=by
 intro F
 induction F with
 | zero=>intro i _ hF; omega
 | succ F ih =>
  intro i hi hF
  show xm (fun x0 x1 x2=>cy F x0 x1 x2 e0 e1) (i:Int) a b e0 e1=_
  unfold xm
  by_cases h:i<a.bK.length
  ·have ga:a.bK.getD (i:Int).toNat (Ty.aZ .pD)=a.bK[i]:=getD_at h _
   have gb:b.bK.getD (i:Int).toNat (Ty.aZ .pD)=b.bK[i]:=getD_at (by omega) _
   rw[aM (show (i:Int)<(a.bK.length:Int) by omega),cond_true,aw (kX i),aw (K4 (show i<b.bK.length by omega)),ga,gb,CI h (by omega)]
   dsimp only
   rw[ih (i+1) (by omega) (by omega),List.drop_eq_getElem_cons h,List.drop_eq_getElem_cons (show i<b.bK.length by omega),uk]
   simp only[eqW]
   cases (a.bK[i].yC==b.bK[i].yC&&(a.bK[i].seq==b.bK[i].seq&&(a.bK[i].bO==b.bK[i].bO&&true))) <;> rfl
  ·rw[bJ (show ¬(i:Int)<(a.bK.length:Int) by omega),cond_false,List.drop_eq_nil_of_le (by omega),List.drop_eq_nil_of_le (by omega)]
   rfl
theorem rsame_ok {R:Type} (a b:Order) (ha:a.nodes.length≤1099511627776) (he:a.bK.length≤1099511627776) (k:Bool→Option R):lY a b k=k (Q9 a b):=by
 unfold lY MA Q9
 have hb:∀(x y:Int),(x != y) = !(x==y):=fun x y=>rfl
 simp only[hb,uk]
 cases (a.header==b.header)with
 | false=>rfl
 | true =>
 cases (a.cO==b.cO)with
 | false=>rfl
 | true =>
 cases (a.order==b.order)with
 | false=>rfl
 | true =>
 cases (a.update==b.update)with
 | false=>rfl
 | true =>
 simp only[cond_true,Bool.true_and]
 by_cases h1:a.nodes.length=b.nodes.length
 rotate_left
 ·have c:((a.nodes.length:Int)==(b.nodes.length:Int))=false:=by rw[Xh]; exact bJ (by omega)
  rw[c,eqS_len h1]
  rfl
 have c1:((a.nodes.length:Int)==(b.nodes.length:Int))=true:=by rw[Xh]; exact aM (by omega)
 rw[c1,cond_true]
 by_cases h2:a.bK.length=b.bK.length
 rotate_left
 ·have c:((a.bK.length:Int)==(b.bK.length:Int))=false:=by rw[Xh]; exact bJ (by omega)
  rw[c,eqW_len h2,Bool.and_false]
  rfl
 have c2:((a.bK.length:Int)==(b.bK.length:Int))=true:=by rw[Xh]; exact aM (by omega)
 rw[c2,cond_true]
 refine (rsameS_loop a b h1 ha _ _ _ 0 (by omega) (by unfold Order.fu; omega)).trans ?_
 rw[List.drop_zero,List.drop_zero]
 cases eqS a.nodes b.nodes with
 | false=>rfl
 | true =>
  refine (rsameW_loop a b h2 he _ _ _ 0 (by omega) (by unfold Order.fu; omega)).trans ?_
  rw[List.drop_zero,List.drop_zero]
  cases eqW a.bK b.bK <;> rfl
structure RawO (o:Order):Prop where
 header:xF o.header
 order:xF o.order
 update:xF o.update
 name:o.cO.length≤1099511627776
 many:o.nodes.length≤1099511627776∧o.bK.length≤1099511627776
 node:∀x∈o.nodes,xF x.node∧xF x.seq
theorem fit08_loop {R:Type} (o:Order) (ho:RawO o) (first b:Int) (h0:0≤first) (h1:first≤998) (n:Nat) (hn:n≤64) (hd:Int) (ve:ah) (od up:Int) (e0:Int→ah→Int→Int→Int→ah→Int→Int→List Stop→List aC.Way→Option R):∀(F i:Nat) (ns:List Stop) (es:List aC.Way),i≤n→n - i<F→ns.length≤i→es.length≤i →
  dq F first (n:Int) b (i:Int) o 0 [] 0 0 hd ve od up ns es e0=e0 0 [] 0 0 hd ve od up (ns++(List.range' i (n - i)).map (ka o first b)) (es++(List.range' (max i 1) (n - max i 1)).map (Fp o first b)):=by
 intro F
 induction F with
 | zero=>intro i ns es _ hF; omega
 | succ F ih =>
  intro i ns es hi hF Rp hes
  show zP _ (fun x0 x1 x2 x3 x4 x5 x6 x7 x8 x9 Ut Nq CJ HG Ls=>dq F x0 x1 x2 x3 x4 x5 x6 x7 x8 x9 Ut Nq CJ HG Ls e0) first (n:Int) b (i:Int) o 0 [] 0 0 hd ve od up ns es e0=_
  unfold zP
  by_cases h:i<n
  rotate_left
  ·rw[bJ (show ¬(i:Int)<(n:Int) by omega),cond_false,show n - i=0 by omega,show n - max i 1=0 by omega]
   simp
  rw[aM (show (i:Int)<(n:Int) by omega),cond_true]
  have w1:IntKind.i64.wrap (2*(i:Int))=2*(i:Int):=cA (by omega) (by omega)
  have w2:IntKind.i64.wrap (first+2*(i:Int))=first+2*(i:Int):=cA (by omega) (by omega)
  have w3:IntKind.i64.wrap (first+2*(i:Int) - 1)=first+2*(i:Int) - 1:=cA (by omega) (by omega)
  have hw:=CI h (by omega)
  have Nk:decide ((i:Int)>0)=decide (0<i):=decide_eq_decide.2 (by omega)
  -- what the place holds
  have hnode:ka o first b i=⟨if i<o.nodes.length then zB (o.nodes.getD i Stop.z).node 1000000001 else 0,first+2*i,decide ((i:Int)<b)⟩:=rfl
  have hway:Fp o first b i=⟨if i<o.nodes.length then zB (o.nodes.getD i Stop.z).seq 1000000001 else 0,first+2*i - 1,decide ((i:Int)<b)⟩:=rfl
  have tail:∀(ns':List Stop) (es':List aC.Way),ns'=ns ++ [ka o first b i]→es'=(if 0<i then es ++ [Fp o first b i]else es) →
    dq F first (n:Int) b ((i+1:Nat):Int) o 0 [] 0 0 hd ve od up ns' es' e0=e0 0 [] 0 0 hd ve od up (ns++(List.range' i (n - i)).map (ka o first b)) (es++(List.range' (max i 1) (n - max i 1)).map (Fp o first b)):=by
   intro ns' es' e1 e2
   subst e1
   subst e2
   rw[ih (i+1) _ _ (by omega) (by omega) (by simp; omega) (by split <;> first|omega|(rw[List.length_append]; simp only[List.length_singleton]; omega))]
   have r1:n - i=(n - (i+1))+1:=by omega
   rw[r1,List.range'_succ,List.map_cons,List.append_assoc]
   congr 1
   by_cases hz:0<i
   ·rw[if_pos hz,show max (i+1) 1=i+1 by omega,show max i 1=i by omega,show n - i=(n - (i+1))+1 by omega,List.range'_succ,List.map_cons,List.append_assoc]
    rfl
   ·rw[if_neg hz,show max (i+1) 1=max i 1 by omega]
  by_cases hin:i<o.nodes.length
  ·have ga:o.nodes.getD (i:Int).toNat (Ty.aZ .stop)=o.nodes.getD i Stop.z:=rfl
   have hx:o.nodes.getD i Stop.z∈o.nodes:=by rw[getD_at hin]; exact List.getElem_mem hin
   have hi64:=ho.node _ hx
   rw[aM (show (i:Int)<(o.nodes.length:Int) by omega),cond_true,aw (kX i),ga,PC _ _ hi64.1 (by omega),aw (kX i),PC _ _ hi64.2 (by omega),w1,w2,w3,hw,Nk]
   rw[if_pos hin]at hnode hway
   by_cases hz:0<i
   ·rw[aM hz,cond_true,aw (aM (by omega)),aw (aM (by omega))]
    exact tail _ _ (by rw[hnode]) (by rw[if_pos hz,hway])
   ·rw[bJ hz,cond_false,aw (aM (by omega))]
    exact tail _ _ (by rw[hnode]) (by rw[if_neg hz])
  ·rw[bJ (show ¬(i:Int)<(o.nodes.length:Int) by omega),cond_false,w1,w2,w3,hw,Nk]
   rw[if_neg hin]at hnode hway
   by_cases hz:0<i
   ·rw[aM hz,cond_true,aw (aM (by omega)),aw (aM (by omega))]
    exact tail _ _ (by rw[hnode]) (by rw[if_pos hz,hway])
   ·rw[bJ hz,cond_false,aw (aM (by omega))]
    exact tail _ _ (by rw[hnode]) (by rw[if_neg hz])
theorem fit08 {R:Type} (o:Order) (ho:RawO o) (base:Int) (hb:xF base) (k:Order→Option R):pQ o base k=k (Qm o base):=by
 obtain ⟨m1,m2⟩:=ho.many
 have hL:=K2 o
 have hm:min (max (o.nodes.length:Int) 1) 64=(pa o:Int):=by unfold pa; omega
 unfold pQ Pp
 rw[PC _ _ ho.header (by omega),fit07 _ ho.name,PC _ _ ho.order (by omega),PC _ _ ho.update (by omega),PC _ _ (by unfold xF; omega) (by omega),hm,PC _ _ hb (by omega)]
 have hF:=V1 o
 have hB:=Sa o base
 have w1:IntKind.i64.wrap (2*zB (o.bK.length:Int) 500)=ig o:=cA (by unfold ig at hF; omega) (by unfold ig at hF; omega)
 have w2:IntKind.i64.wrap (1+zB base (pa o:Int))=mU o base:=cA (by unfold mU at hB; omega) (by unfold mU at hB; omega)
 rw[w1,w2]
 refine (fit08_loop o ho (ig o) (mU o base) hF.1 hF.2.1 (pa o) hL.2 _ _ _ _ _ _ 0 [] [] (by omega) (by omega) (by simp) (by simp)).trans ?_
 unfold Qm
 simp only[List.nil_append]
 rfl
end Go.Proofs.YtidfokedcnhahaaGreatDoor
/-
 Functions of the program as pure Lean functions, and the ties; printed by wip/tools/emit.py.
-/
set_option maxRecDepth 100000
namespace Go.Proofs.YtidfokedcnhahaaGreatDoor
open Go Go.aC
variable {R:Type}
end Go.Proofs.YtidfokedcnhahaaGreatDoor
/-
 Functions of the program as pure Lean functions, and the ties; printed by wip/tools/emit.py.
-/
set_option maxRecDepth 100000
namespace Go.Proofs.YtidfokedcnhahaaGreatDoor
open Go Go.aC
variable {R:Type}
end Go.Proofs.YtidfokedcnhahaaGreatDoor
set_option maxRecDepth 100000
namespace Go.Proofs.YtidfokedcnhahaaGreatDoor
open Go Go.aC Go.Lib
theorem rawO_of {o:Order} (h:∀c∈Ty.cells .order o,Small 1048576 c):RawO o:=by
 have hn:=(h (.sl .stop o.nodes .no) (by simp[Ty.cells])).ES
 have he:=(h (.sl .pD o.bK .no) (by simp[Ty.cells])).ES
 exact {
  header:=qv.1 (h (.int .i64 o.header) (by simp[Ty.cells])).fk
  order:=qv.1 (h (.int .i64 o.order) (by simp[Ty.cells])).fk
  update:=qv.1 (h (.int .i64 o.update) (by simp[Ty.cells])).fk
  name:=by have:=(h (.str o.cO) (by simp[Ty.cells])).iu; omega
  many:=⟨Nat.le_trans (show o.nodes.length≤1048576 from hn.1) (by omega),Nat.le_trans (show o.bK.length≤1048576 from he.1) (by omega)⟩
  node:=fun x hx=>⟨qv.1 (hn.2 x hx (.int .i64 x.node) (by simp[Ty.cells])).fk,qv.1 (hn.2 x hx (.int .i64 x.seq) (by simp[Ty.cells])).fk⟩ }
theorem Vb {n:Int} (h:Small 1048576 (.int .i64 n)):xF n:=qv.1 h.fk
theorem AK {o:Order} (h:n8 o=true):o.nodes.length≤64∧o.bK.length≤64:=by
 obtain ⟨m1,m2,m3⟩:=(P2 h).many
 omega
theorem text_len {o:Order} (h:n8 o=true):(om (cF (o9 o))).length≤20009:=by
 have:=P3 (P2 h)
 rw[P1]
 omega
theorem lay_r {R:Type} {o:Order} (h:n8 o=true) (k:ah→Int→Option R):gd o k=k (om (cF (o9 o))) 0:=by
 rw[lay_ok o (by have:=AK h; omega),h,if_pos rfl]
theorem take_r {R:Type} {o:Order} (h:n8 o=true) (k:Order→Int→Option R):nk (om (cF (o9 o))) k=k o 0:=by
 rw[take_ok _ (by have:=text_len h; omega),ZD h]
 rfl
theorem right_r {R:Type} {o:Order} (h:n8 o=true) (k:Bool→Option R):bZ o k=k true:=by
 rw[JT o (by have:=AK h; omega),h]
theorem same_r {R:Type} {o:Order} (h:n8 o=true) (p:Order) (k:Bool→Option R):fG o p k=k (Q9 o p) :=
 orderSame_ok o p (by have:=AK h; omega) (by have:=AK h; omega) k
theorem rsame_r {R:Type} {o:Order} (h:n8 o=true) (p:Order) (k:Bool→Option R):lY o p k=k (Q9 o p) :=
 rsame_ok o p (by have:=AK h; omega) (by have:=AK h; omega) k
theorem base_r {R:Type} {o:Order} (h:n8 o=true) (k:Int→Option R):fH o k=k (baseO o):=orderBase_ok o (by have:=AK h; omega) k
def exO:Order:=⟨1, [118,49],2,0, [⟨3,0,true⟩], []⟩
theorem K5:n8 exO=true:=by decide +kernel
theorem ZJ:cF (o9 exO) = [123,34,104,101,97,100,101,114,73,100,34,58,49,44,34,115,101,114,105,97,108,78,117,109,98,101,114,34,58,34,118,49,34,44,34,111,114,100,101,114,73,100,34,58,50,44,34,111,114,100,101,114,85,112,100,97,116,101,73,100,34,58,48,44,34,110,111,100,101,115,34,58,91,123,34,110,111,100,101,73,100,34,58,51,44,34,115,101,113,117,101,110,99,101,73,100,34,58,48,44,34,114,101,108,101,97,115,101,100,34,58,116,114,117,101,125,93,44,34,101,100,103,101,115,34,58,91,93,125]:=by kernel_rfl
theorem awake08 {R:Type} (k:Bool→Option R):mA k=k true:=by
 unfold mA JR
 show gd exO _=_
 rw[lay_r K5,take_r K5,lay_ok _ (by decide)]
 have h0:n8 ⟨0, [],0,0, [], []⟩=false:=by decide +kernel
 rw[h0]
 have b0:((0:Int)==0)=true:=rfl
 have b1:((1:Int)==1)=true:=rfl
 simp only[Bool.false_eq_true,if_false,b0,b1,cond_true]
 rw[←ZJ,seal_ok _ (by rw[ZJ]; decide),beq_self_eq_true,cond_true,aM (show (((om (cF (o9 exO))).length:Int)>100) by rw[P1,ZJ]; decide),cond_true]
 show fG exO exO _=_
 rw[same_r K5,sameO_self,cond_true]
 show fH exO _=_
 rw[base_r K5]
 have hb:(baseO exO==1)=true:=by decide +kernel
 rw[hb,cond_true]
 exact right_r K5 _
theorem WT {R:Type} (a b:Order) (one two:Int) (ha:∀c∈Ty.cells .order a,Small 1048576 c) (hb:∀c∈Ty.cells .order b,Small 1048576 c) (h1:Small 1048576 (.int .i64 one)) (h2:Small 1048576 (.int .i64 two)) (k:Bool→Option R):th a b one two k=k true:=by
 have hx:=ZG a one
 have hy:=ZG b two
 unfold th AH
 rw[awake08,fit08 a (rawO_of ha) one (Vb h1),fit08 b (rawO_of hb) two (Vb h2),lay_r hx,lay_r hy,cond_true]
 have b0:((0:Int)==0)=true:=rfl
 simp only[b0,cond_true]
 have hs:(om (cF (o9 (Qm a one)))==om (cF (o9 (Qm b two))))=Q9 (Qm a one) (Qm b two):=by
  rw[Bool.eq_iff_iff,sameO_iff]
  constructor
  ·intro h; exact lay_inj hx hy (by simpa using h)
  ·intro h; rw[h]; simp
 have bb:∀x:Bool,(x==x)=true:=fun x=>by cases x <;> rfl
 have hl:=fitO_len a one
 have hL:=K2 a
 rw[rsame_r hx,hs,bb,cond_true,same_r hx,rsame_r hx,bb,cond_true,base_r hx,PC _ _ (Vb h1) (by rw[hl]; omega),fitO_base,hl]
 have p1:=T0 one (pa a)
 have p2:=T1 one (n:=(pa a:Int)) (by omega)
 rw[cA (by omega) (by omega),beq_self_eq_true]
end Go.Proofs.YtidfokedcnhahaaGreatDoor
end
