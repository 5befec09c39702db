/-
  GA, part 9 of 10.
-/
import Derived.Test.YtidfokedcnhahaaGreatDoorGAB8
set_option linter.unusedSimpArgs false
set_option linter.unnecessarySimpa false
set_option linter.unusedVariables false
set_option linter.unusedSectionVars false
noncomputable section
set_option maxRecDepth 100000
namespace Go.Proofs.YtidfokedcnhahaaGreatDoor
open Go Go.aq Go.Lib
theorem FG:∀(l seen:List ag),tu seen l=true↔(∀n∈l,fE n=true)∧l.Nodup∧∀n∈l,n∉seen
 | [],seen=>by simp[tu]
 | x::l,seen=>by
  have ih:=FG l (x::seen)
  simp only[tu,Bool.and_eq_true,ih,Bool.not_eq_true',List.contains_eq_mem,decide_eq_false_iff_not]
  constructor
  ·rintro ⟨⟨h1,h2⟩,h3,h4,h5⟩
   refine ⟨fun n hn => ?_,List.nodup_cons.2 ⟨fun hx=>h5 x hx (by simp),h4⟩,fun n hn => ?_⟩
   ·rcases List.mem_cons.1 hn with rfl|hn
    ·exact h2
    ·exact h3 n hn
   ·rcases List.mem_cons.1 hn with rfl|hn
    ·exact h1
    ·exact fun hm=>h5 n hn (by simp[hm])
  ·rintro ⟨h1,h2,h3⟩
   obtain ⟨h4,h5⟩:=List.nodup_cons.1 h2
   refine ⟨⟨h3 x (by simp),h1 x (by simp)⟩,fun n hn=>h1 n (by simp[hn]),h5,fun n hn hm => ?_⟩
   rcases List.mem_cons.1 hm with rfl|hm
   ·exact h4 hn
   ·exact h3 n (by simp[hn]) hm
def Jf:List ag→Nat
 | []=>0
 | n::l=>(NY n).length+2+Jf l
def Jg:List Json→Nat
 | []=>0
 | x::l=>(cE x).length+Jg l
theorem sumN_app:∀(a b:List ag),Jf (a++b)=Jf a+Jf b
 | [],b=>by simp[Jf]
 | x::a,b=>by simp only[List.cons_append,Jf,sumN_app a b]; omega
theorem sumI_app:∀(a b:List Json),Jg (a++b)=Jg a+Jg b
 | [],b=>by simp[Jg]
 | x::a,b=>by simp only[List.cons_append,Jg,sumI_app a b]; omega
theorem aaH:∀(a:List ag),Jf a.reverse=Jf a
 | []=>rfl
 | x::a=>by rw[List.reverse_cons,sumN_app,aaH a]; simp only[Jf]; omega
theorem aaI:∀(a:List Json),Jg a.reverse=Jg a
 | []=>rfl
 | x::a=>by rw[List.reverse_cons,sumI_app,aaI a]; simp only[Jg]; omega
theorem sumN_sub {a b:List ag} (h:a.Sublist b):Jf a≤Jf b:=by
 induction h with
 | slnil=>exact Nat.le_refl _
 | cons x h ih=>simp only[Jf]; omega
 | cons_cons x h ih=>simp only[Jf]; omega
theorem sumI_sub {a b:List Json} (h:a.Sublist b):Jg a≤Jg b:=by
 induction h with
 | slnil=>exact Nat.le_refl _
 | cons x h ih=>simp only[Jg]; omega
 | cons_cons x h ih=>simp only[Jg]; omega
theorem aaJ:∀(ns:List ag) (l:List Json) (b:Bool),ns.length=l.length→(iu ns l b).length≤Jf ns+Jg l
 | [], [],_,_=>by simp[iu,Jf,Jg]
 | n::ns,x::l,b,h=>by
  have ih:=aaJ ns l false (by simpa using h)
  have:(if b=true then ([]:ag)else [44]).length≤1:=by cases b <;> simp
  simp only[iu,List.headD_cons,List.tail_cons,List.length_append,List.length_cons,Jf,Jg]
  omega
 | [],_::_,_,h=>by simp at h
 | _::_, [],_,h=>by simp at h
structure Fields (ns:List ag) (is:List Json):Prop where
 len:ns.length=is.length
 uniq:tu [] ns=true
 right:∀x∈is,dZ x 2=true
 short:Jf ns+Jg is≤19000
variable {ns:List ag} {is:List Json}
theorem Fields.rj (h:Fields ns is):dZ (uL ns is) 1=true:=right_obj h.len h.uniq (Wz h.right) (by omega)
theorem Fields.pl (h:Fields ns is):(cE (uL ns is)).length≤19002:=by
 have h1:=len_obj ns is
 have h2:=aaJ ns is true h.len
 have:=h.short
 omega
theorem Fields.erase (h:Fields ns is) (k:Nat):Fields (ns.eraseIdx k) (is.eraseIdx k):=by
 obtain ⟨u1,u2,u3⟩:=(FG _ _).1 h.uniq
 have s1:=List.eraseIdx_sublist ns k
 have s2:=List.eraseIdx_sublist is k
 refine ⟨?_,(FG _ _).2 ⟨fun n hn=>u1 n (s1.subset hn),u2.sublist s1,fun n hn=>u3 n (s1.subset hn)⟩,fun x hx=>h.right x (s2.subset hx),?_⟩
 ·rw[List.length_eraseIdx,List.length_eraseIdx,h.len]
 ·have:=h.short
  have:=sumN_sub s1
  have:=sumI_sub s2
  omega
theorem Fields.rev (h:Fields ns is):Fields ns.reverse is.reverse:=by
 obtain ⟨u1,u2,u3⟩:=(FG _ _).1 h.uniq
 refine ⟨by simp[h.len],(FG _ _).2 ⟨fun n hn=>u1 n (by simpa using hn),by unfold List.Nodup; exact List.pairwise_reverse.2 (List.Pairwise.imp (fun h=>Ne.symm h) u2),fun n hn=>u3 n (by simpa using hn)⟩,fun x hx=>h.right x (by simpa using hx),?_⟩
 rw[aaH,aaI]
 exact h.short
theorem Fields.more (h:Fields ns is) {n:ag} {x:Json} (hv:fE n=true) (hn:n∉ns) (hx:dZ x 2=true) (hs:Jf ns+Jg is+((NY n).length+2)+(cE x).length≤19000):Fields (n::ns) (x::is):=by
 obtain ⟨u1,u2,u3⟩:=(FG _ _).1 h.uniq
 refine ⟨by simp[h.len],(FG _ _).2 ⟨fun m hm => ?_,List.nodup_cons.2 ⟨hn,u2⟩,fun m hm=>by simp⟩,fun y hy => ?_,?_⟩
 ·rcases List.mem_cons.1 hm with rfl|hm
  ·exact hv
  ·exact u1 m hm
 ·rcases List.mem_cons.1 hy with rfl|hy
  ·exact hx
  ·exact h.right y hy
 ·simp only[Jf,Jg]
  omega
theorem Fields.parse (h:Fields ns is):pF (cE (uL ns is))=(uL ns is,0,0):=QO h.rj (by have:=h.pl; omega)
theorem valid_all {s:ag} (h:∀b∈s,R9.contains b=true):fE s=true:=by
 refine Hx.2 ⟨s.map (·.toNat),fun c hc => ?_,?_⟩
 ·obtain ⟨b,hb,rfl⟩:=List.mem_map.1 hc
  have:=h b hb
  have all:∀n:Fin 256,R9.contains (UInt8.ofNat n.val)=true→n.val<128:=by decide +kernel
  have h128:b.toNat<128:=by simpa using all ⟨b.toNat,UInt8.toNat_lt b⟩ (by simpa using this)
  exact .inl (by omega)
 ·induction s with
  | nil=>rfl
  | cons b s ih =>
   have hb:=h b (by simp)
   have all:∀n:Fin 256,R9.contains (UInt8.ofNat n.val)=true→enc n.val = [UInt8.ofNat n.val]:=by decide +kernel
   have VA:=all ⟨b.toNat,UInt8.toNat_lt b⟩ (by simpa using hb)
   simp only[List.map_cons,fp,List.flatMap_cons]
   have:=ih fun x hx=>h x (by simp[hx])
   unfold fp at this
   rw[←this]
   have hb3:enc b.toNat = [b]:=by simpa using VA
   rw[hb3]
   rfl
def oddN (w:ag):ag := [120]++X5 w
theorem odd_valid (w:ag):fE (oddN w)=true:=valid_all fun b hb=>by
 rcases List.mem_append.1 hb with hb|hb
 ·obtain rfl:=List.mem_singleton.1 hb
  decide +kernel
 ·have:=YA w
  unfold CV at this
  simp only[Bool.and_eq_true]at this
  exact List.all_eq_true.1 this.1 b hb
theorem odd_short (w:ag):(NY (oddN w)).length≤104:=by
 have h1:=len_str (oddN w)
 have e:cE (strV (oddN w))=NY (oddN w):=by unfold strV; simp only[cE]; rfl
 rw[e]at h1
 have h2:=YA w
 unfold CV at h2
 simp only[Bool.and_eq_true,decide_eq_true_eq]at h2
 have:(oddN w).length=(X5 w).length+1:=by unfold oddN; simp
 omega
theorem odd_new (w:ag) {l:List ag} (h:l.all (fun n=>n.head? != some 120)=true):oddN w∉l:=fun hm=>by
 have:=List.all_eq_true.1 h _ hm
 simp[oddN]at this
theorem JX {s:bO} (h:OkA s):Fields lx (ly s)∧Jf lx+Jg (ly s)≤2000:=by
 obtain ⟨hv,hvl⟩:=N3 h.name
 have h1:=tV h.header
 have h2:=tV h.dc
 have h3:=tV h.order
 have h4:=tV h.update
 have h5:=tV h.node
 have h6:=tV h.seq
 have h7:=tV h.accepted
 have h8:=len_str s.bc
 have h9:=Yz s.live
 have h10:=Yz s.bz
 have q:Jf lx≤400:=by decide +kernel
 have hs:Jf lx+Jg (ly s)≤2000:=by
  simp only[ly,Jg]
  omega
 refine ⟨⟨rfl,by decide +kernel,fun x hx => ?_,by omega⟩,hs⟩
 simp only[ly,List.mem_cons,List.not_mem_nil,or_false]at hx
 rcases hx with rfl|rfl|rfl|rfl|rfl|rfl|rfl|rfl|rfl|rfl
 ·exact lX h.header (by omega)
 ·exact lX h.dc (by omega)
 ·exact right_str hv (by omega)
 ·exact lX h.order (by omega)
 ·exact lX h.update (by omega)
 ·exact RD _ (by omega)
 ·exact lX h.node (by omega)
 ·exact lX h.seq (by omega)
 ·exact RD _ (by omega)
 ·exact lX h.accepted (by omega)
theorem takeA_val {v:Json} {t:ag} (hp:pF t=(v,0,0)):takeA (ew t)=match stateT v with|some o=>if jS o then .ok o else .error 90|none => .error 90:=by
 unfold takeA
 rw[RE]
 simp only
 rw[hp]
 simp only[ne_eq,not_true_eq_false,if_false]
 all_goals rfl
theorem stateT_all {v:Json} {o:bO} (h:stateT v=some o):(dQ v EU).isSome=true∧(dQ v SP).isSome=true∧(Ir v EV).isSome=true∧(dQ v KQ).isSome=true∧(dQ v EW).isSome=true∧(pG v SQ).isSome=true∧(dQ v SR).isSome=true∧(dQ v tSeq).isSome=true∧(pG v zZ).isSome=true∧(dQ v uX).isSome=true:=by
 unfold stateT at h
 split at h
 ·rename_i h1 h2 h3 h4 h5 h6 h7 h8 h9 h10
  rw[h1,h2,h3,h4,h5,h6,h7,h8,h9,h10]
  exact ⟨rfl,rfl,rfl,rfl,rfl,rfl,rfl,rfl,rfl,rfl⟩
 ·cases h
def CX (w:ag):List ag:=oddN w::lx.reverse
def CY (s:bO):List Json:=AM 1::(ly s).reverse
theorem Xq {s:bO} (h:OkA s) (w:ag):Fields (CX w) (CY s):=by
 obtain ⟨f,fs⟩:=JX h
 have h1:=odd_short w
 have h2:=tV (n:=1) (by decide)
 exact f.rev.more (odd_valid w) (odd_new w (by decide +kernel)) (lX (by decide) (by omega)) (by rw[aaH,aaI]; omega)
theorem formA_take {s:bO} (h:jS s=true) (w:ag):takeA (ew (cE (uL (CX w) (CY s)))) = .ok s:=by
 have hk:=Bj h
 rw[takeA_val (Xq hk w).parse]
 have e:stateT (uL (CX w) (CY s))=some s:=by
  rw[←aaG hk]
  have e1:dQ (uL (CX w) (CY s)) EU=dQ (eH s) EU:=rfl
  have e2:dQ (uL (CX w) (CY s)) SP=dQ (eH s) SP:=rfl
  have e3:Ir (uL (CX w) (CY s)) EV=Ir (eH s) EV:=rfl
  have e4:dQ (uL (CX w) (CY s)) KQ=dQ (eH s) KQ:=rfl
  have e5:dQ (uL (CX w) (CY s)) EW=dQ (eH s) EW:=rfl
  have e6:pG (uL (CX w) (CY s)) SQ=pG (eH s) SQ:=rfl
  have e7:dQ (uL (CX w) (CY s)) SR=dQ (eH s) SR:=rfl
  have e8:dQ (uL (CX w) (CY s)) tSeq=dQ (eH s) tSeq:=rfl
  have e9:pG (uL (CX w) (CY s)) zZ=pG (eH s) zZ:=rfl
  have e10:dQ (uL (CX w) (CY s)) uX=dQ (eH s) uX:=rfl
  unfold stateT
  rw[e1,e2,e3,e4,e5,e6,e7,e8,e9,e10]
 rw[e]
 simp only
 rw[if_pos h]
theorem lessA_take {s:bO} (h:jS s=true) (k:Nat) (hk:k<10):takeA (ew (cE (uL (lx.eraseIdx k) ((ly s).eraseIdx k)))) = .error 90:=by
 rw[takeA_val ((JX (Bj h)).1.erase k).parse]
 have e:stateT (uL (lx.eraseIdx k) ((ly s).eraseIdx k))=none:=by
  cases hT:stateT (uL (lx.eraseIdx k) ((ly s).eraseIdx k))with
  | none=>rfl
  | some p =>
   exfalso
   obtain ⟨a0,a1,a2,a3,a4,a5,a6,a7,a8,a9⟩:=stateT_all hT
   match k,hk with
   | 0,_ =>
    have:dQ (uL (lx.eraseIdx 0) ((ly s).eraseIdx 0)) EU=none:=rfl
    rw[this]at a0; cases a0
   | 1,_ =>
    have:dQ (uL (lx.eraseIdx 1) ((ly s).eraseIdx 1)) SP=none:=rfl
    rw[this]at a1; cases a1
   | 2,_ =>
    have:Ir (uL (lx.eraseIdx 2) ((ly s).eraseIdx 2)) EV=none:=rfl
    rw[this]at a2; cases a2
   | 3,_ =>
    have:dQ (uL (lx.eraseIdx 3) ((ly s).eraseIdx 3)) KQ=none:=rfl
    rw[this]at a3; cases a3
   | 4,_ =>
    have:dQ (uL (lx.eraseIdx 4) ((ly s).eraseIdx 4)) EW=none:=rfl
    rw[this]at a4; cases a4
   | 5,_ =>
    have:pG (uL (lx.eraseIdx 5) ((ly s).eraseIdx 5)) SQ=none:=rfl
    rw[this]at a5; cases a5
   | 6,_ =>
    have:dQ (uL (lx.eraseIdx 6) ((ly s).eraseIdx 6)) SR=none:=rfl
    rw[this]at a6; cases a6
   | 7,_ =>
    have:dQ (uL (lx.eraseIdx 7) ((ly s).eraseIdx 7)) tSeq=none:=rfl
    rw[this]at a7; cases a7
   | 8,_ =>
    have:pG (uL (lx.eraseIdx 8) ((ly s).eraseIdx 8)) zZ=none:=rfl
    rw[this]at a8; cases a8
   | 9,_ =>
    have:dQ (uL (lx.eraseIdx 9) ((ly s).eraseIdx 9)) uX=none:=rfl
    rw[this]at a9; cases a9
 rw[e]
structure StepsO (o:Order):Prop where
 first:Int.tmod (o.nodes.getD 0 Stop.z).seq 2=0∧(o.nodes.getD 0 Stop.z).wy=true
 next:∀i,i<o.Ji.length→(o.nodes.getD (i+1) Stop.z).seq=(o.Ji.getD i aq.Way.z).seq+1∧(o.Ji.getD i aq.Way.z).wy=(o.nodes.getD (i+1) Stop.z).wy
theorem aaK {s:ag} (h:DY s=none):takeA s = .error 60:=by unfold takeA; rw[h]
theorem turn_ne (x c:UInt8):x≠x ^^^ (1+c % 255):=by
 intro h
 have h1:x ^^^ x=x ^^^ (x ^^^ (1+c % 255)):=congrArg (x ^^^ ·) h
 rw[←UInt8.xor_assoc,UInt8.xor_self,UInt8.zero_xor]at h1
 have all:∀n:Fin 256,(0:UInt8)≠1+UInt8.ofNat n.val % 255:=by decide +kernel
 have:=all ⟨c.toNat,UInt8.toNat_lt c⟩
 simp only[UInt8.ofNat_toNat]at this
 exact this h1
theorem turned_shut (t:ag) (k:Nat) (c:UInt8) (hk:k<(ew t).length):DY ((ew t).set k ((ew t)[k] ^^^ (1+c % 255)))=none:=open_altered t k _ hk (turn_ne _ _)
theorem bne_cond {α:Type} [DecidableEq α] (a b:α):(a != b) = !decide (a=b):=by
 by_cases h:a=b <;> simp[h]
theorem beq_dec {α:Type} [DecidableEq α] (a b:α):(a==b)=decide (a=b):=by
 by_cases h:a=b <;> simp[h]
theorem in_range {i n:Nat} (h:i<n):(decide ((0:Int)≤(i:Int))&&decide ((i:Int)<(n:Int)))=true:=by rw[aQ (by omega),aQ (by omega)]; rfl
theorem Iw (i:Nat):(decide ((0:Int)≤(i:Int))&&true)=true:=by rw[aQ (by omega)]; rfl
theorem aaL {i n:Nat} (h:i<n) (hn:n≤4000000000000):IntKind.i64.wrap ((i:Int)+1)=((i+1:Nat):Int):=by rw[cL (by omega) (by omega)]; omega
theorem topicName_ok {R:Type} (s:ag) (k:Bool→Option R):topic_Name s k=k (CV s):=by
 unfold topic_Name topic_Name_X
 rw[ay (by decide +kernel),←trim_name s]
 show (bif (bx s R9==([]:ag))then (bif (!(s==([]:ag)))then k (decide ((s.length:Int)≤16))else k false)else k false)=_
 cases (bx s R9==([]:ag)) <;> cases (s==([]:ag)) <;> rfl
theorem w32 (n:Nat):IntKind.u32.wrap (n:Int)=((n % 4294967296:Nat):Int):=by
 show ((n:Int) % 4294967296)=_
 omega
theorem of32 (n:Nat):(BitVec.ofInt IntKind.u32.bits (n:Int)).toNat=n % 4294967296:=by
 rw[BitVec.toNat_ofInt]
 show ((n:Int) % ((4294967296:Nat):Int)).toNat=_
 omega
theorem xor32 (h c:Nat) (hh:h<4294967296) (c8:UInt8) (hc:c=c8.toNat):IntKind.u32.wrap ((BitVec.ofInt IntKind.u32.bits (h:Int) ^^^ BitVec.ofInt IntKind.u32.bits (c:Int)).toNat:Int)=((h ^^^ c8.toNat:Nat):Int):=by
 have h8:=UInt8.toNat_lt c8
 subst hc
 rw[BitVec.toNat_xor,of32,of32,Nat.mod_eq_of_lt hh,Nat.mod_eq_of_lt (by omega),w32,Nat.mod_eq_of_lt (aaF hh c8)]
theorem step32 (h:Nat) (hh:h<4294967296) (c:UInt8):IntKind.u32.wrap ((IntKind.u32.wrap ((BitVec.ofInt IntKind.u32.bits (h:Int) ^^^ BitVec.ofInt IntKind.u32.bits (IntKind.u32.wrap (c.toNat:Int))).toNat:Int))*16777619)=((CU h c:Nat):Int):=by
 have h8:=UInt8.toNat_lt c
 rw[w32 c.toNat,Nat.mod_eq_of_lt (by omega),xor32 h c.toNat hh c rfl]
 have e:(((h ^^^ c.toNat:Nat):Int)*16777619)=(((h ^^^ c.toNat)*16777619:Nat):Int):=by rw[Int.natCast_mul]; rfl
 rw[e,w32]
 rfl
theorem sum_loop {R:Type} (s:ag) (hs:s.length≤1099511627785) (e0:Int→Option R):∀(F i h:Nat),i≤s.length→s.length - i<F→h<4294967296→dY F (h:Int) s.length (s.length:Int) (i:Int) (gS s) e0=e0 ((R7 (s.drop i) h:Nat):Int):=by
 intro F
 induction F with
 | zero=>intro i h _ hF; omega
 | succ F ih =>
  intro i h hi hF hh
  show Cs (fun x0 x1 x2 x3 x4=>dY F x0 x1 x2 x3 x4 e0) (h:Int) s.length (s.length:Int) (i:Int) (gS s) e0=_
  unfold Cs
  by_cases hl:i<s.length
  rotate_left
  ·rw[cv (show ¬(i:Int)<(s.length:Int) by omega),cond_false,List.drop_eq_nil_of_le (by omega)]
   unfold R7
   rw[List.foldl_nil]
  have hw:IntKind.i64.wrap ((i:Int)+1)=((i+1:Nat):Int):=by rw[cL (by omega) (by omega)]; omega
  have hg:(gS s).getD (i:Int).toNat (Ty.bR (.int .u8))=(s[i].toNat:Int):=by
   have e1:((s.map fun b=>(b.toNat:Int)):List Int).getD i 0=(s[i].toNat:Int):=by
    rw[List.getD_eq_getElem?_getD,List.getElem?_map,List.getElem?_eq_getElem hl]
    rfl
   exact e1
  rw[aQ (show (i:Int)<(s.length:Int) by omega),cond_true,ay (by rw[aQ (show (0:Int)≤(i:Int) by omega)]; rfl),ay (aQ (by rw[Int.toNat_natCast,Bi,Ey]; exact hl)),hg,step32 h hh,hw]
  refine (ih (i+1) _ (by omega) (by omega) (EC h s[i])).trans ?_
  rw[List.drop_eq_getElem_cons hl,Mb]
theorem sum_ok {R:Type} (s:ag) (hs:s.length≤1099511627785) (k:Int→Option R):uG s k=k ((Wy s:Nat):Int):=by
 have e:uG s k=dY (Int.natAbs 2166136261+Int.natAbs (s.length:Int)+Int.natAbs 0+List.length (gS s)+64) ((2166136261:Nat):Int) s.length (s.length:Int) ((0:Nat):Int) (gS s) (fun y7=>k y7):=rfl
 rw[e,sum_loop s hs _ _ 0 _ (by omega) (by omega) (by decide),List.drop_zero]
 rfl
theorem shr4 (n:Nat):Int.fdiv (n:Int) (2 ^ (min 4 IntKind.u32.bits))=((n / 16:Nat):Int):=by
 show Int.fdiv (n:Int) 16=_
 rw[Int.fdiv_eq_ediv_of_nonneg _ (by decide)]
 omega
theorem and15u (n:Nat):IntKind.u32.wrap ((BitVec.ofInt IntKind.u32.bits (n:Int) &&& BitVec.ofInt IntKind.u32.bits 15).toNat:Int)=((n % 16:Nat):Int):=by
 have h2:(BitVec.ofInt IntKind.u32.bits 15).toNat=15:=by decide
 rw[BitVec.toNat_and,of32,h2]
 have h3:(n % 4294967296) &&& 15=(n % 4294967296) % 16:=Nat.and_two_pow_sub_one_eq_mod _ 4
 rw[h3,w32]
 omega
theorem in16 (n:Nat):(decide ((0:Int)≤((n % 16:Nat):Int))&&decide (((n % 16:Nat):Int)<(16:Int)))=true:=by
 rw[aQ (by omega),aQ (by omega)]; rfl
theorem N5 {R:Type} (s:ag) (hs:s.length≤1099511627776) (k:ag→Option R):bQ s k=k (ew s):=by
 have e:bQ s k=JQ uG s k:=rfl
 rw[e]
 unfold JQ
 rw[sum_ok s (by omega)]
 have hH:=fnv_lt s 2166136261 (by decide)
 unfold ew R8
 unfold Wy
 generalize R7 s 2166136261=H at hH
 simp only[shr4,and15u,in16,cw,cond_true,Int.toNat_natCast]
 rw[aQ (show s.length+1≤9223372036854775807 by omega),cond_true,aQ (by simp only[List.length_append,List.length_map,List.length_cons,List.length_nil]; omega),cond_true]
 congr 1
 rw[List.append_assoc]
 congr 1
 simp only[List.map_cons,List.map_nil,Int.toNat_natCast,UInt8.ofNat_toNat,List.singleton_append,hxB,hxS,Nat.div_div_eq_div_mul]
theorem last_cases (s:ag):(E3 s 35 = -1∧∀x∈s,x≠35)∨∃i:Nat,∃h:i<s.length,E3 s 35=(i:Int)∧s[i]=35∧∀j (hj:j<s.length),i<j→s[j]≠35:=by
 have HF:∀j (h:j<s.length),(⟨s.toArray⟩:ByteArray).data[j]! = s[j]:=fun j h=>by
  show s.toArray[j]! = s[j]
  rw[getElem!_pos _ _ (by simpa using h)]
  simp
 have qE:(⟨s.toArray⟩:ByteArray).size=s.length:=by show s.toArray.size=_; simp
 have h35:∀x:UInt8,((x.toNat:Int)=((35:UInt8).toNat:Int))↔x=35:=fun x=>by
  constructor
  ·intro h; exact UInt8.toNat_inj.1 (by omega)
  ·rintro rfl; rfl
 unfold E3
 rcases Go.Lib.lastIndexByte_spec ⟨s.toArray⟩ ((35:UInt8).toNat:Int)with ⟨h1,h2⟩|⟨i,h1,h2,h3,h4⟩
 ·refine .inl ⟨h1,fun x hx => ?_⟩
  obtain ⟨j,hj,rfl⟩:=List.getElem_of_mem hx
  have:=h2 j (by rw[qE]; exact hj)
  rw[HF j hj]at this
  exact fun e=>this ((h35 _).2 e)
 ·rw[qE]at h1
  refine .inr ⟨i,h1,h2,?_,fun j hj AT => ?_⟩
  ·rw[HF i h1]at h3
   exact (h35 _).1 h3
  ·have:=h4 j AT (by rw[qE]; exact hj)
   rw[HF j hj]at this
   exact fun e=>this ((h35 _).2 e)
theorem seal_at (t:ag):∃h:t.length<(ew t).length,(ew t)[t.length]=35∧∀j (hj:j<(ew t).length),t.length<j→(ew t)[j]≠35:=by
 have hl:=lY t
 refine ⟨by omega,?_,fun j hj AT => ?_⟩
 ·simp[ew]
 ·have hm:(ew t)[j]∈R8 (Wy t):=by
   obtain ⟨m,rfl⟩:∃m,j=t.length+(m+1):=⟨j - t.length - 1,by omega⟩
   have e:(ew t)[t.length+(m+1)]? = (R8 (Wy t))[m]? :=by
    unfold ew
    rw[List.getElem?_append_right (by omega),Nat.add_sub_cancel_left,List.getElem?_cons_succ]
   rw[List.getElem?_eq_getElem hj]at e
   exact List.mem_of_getElem? e.symm
  exact hex8_ne _ _ hm
theorem open_ok {R:Type} (s:ag) (hs:s.length≤1099511627776) (k:ag→Int→Option R):db s k=match DY s with|some t=>k t 0|none=>k [] 60:=by
 have e:db s k=JR bQ s k:=rfl
 rw[e]
 unfold JR
 rw[ay (aQ (by omega))]
 rcases last_cases s with ⟨h1,h2⟩|⟨i,hi,h1,h2,h3⟩
 ·rw[h1]
  have:DY s=none:=by
   cases ho:DY s with
   | none=>rfl
   | some t =>
    exfalso
    have e:=RF ho
    obtain ⟨g1,g2,_⟩:=seal_at t
    exact h2 35 (by rw[e,←g2]; exact List.getElem_mem _) rfl
  rw[this]
  rfl
 ·rw[h1]
  rw[cv (show ¬(i:Int)<0 by omega),cond_false]
  have c1:(decide ((0:Int)≤(i:Int))&&decide ((i:Int)≤(s.length:Int)))=true:=by rw[aQ (by omega),aQ (by omega)]; rfl
  have c2:decide ((0:Int)≤(i:Int))=true:=aQ (by omega)
  rw[ay c1,ay c2,Int.toNat_natCast,List.drop_zero,Nat.sub_zero,N5 _ (by rw[List.length_take]; omega)]
  by_cases hq:ew (s.take i)=s
  ·have b1:(!(ew (s.take i)==s))=false:=by simp[hq]
   have ho:DY s=some (s.take i):=by rw[←hq,RE,hq]
   rw[b1,cond_false,ay c1,ay c2,ho]
  ·have b1:(!(ew (s.take i)==s))=true:=by simpa using hq
   rw[b1,cond_true]
   have ho:DY s=none:=by
    cases ho:DY s with
    | none=>rfl
    | some t =>
     exfalso
     have e:=RF ho
     obtain ⟨g1,g2,g3⟩:=seal_at t
     have hit:i=t.length:=by
      subst e
      rcases Nat.lt_trichotomy i t.length with h|h|h
      ·exact (h3 t.length g1 h g2).elim
      ·exact h
      ·exact (g3 i hi h h2).elim
     apply hq
     rw[e,hit]
     congr 1
     unfold ew
     simp
   rw[ho]
theorem str_ok {R:Type} (s:ag) (k:Json→Option R):uP s k=k (strV s):=rfl
theorem yes_ok {R:Type} (b:Bool) (k:Json→Option R):jn b k=k (yesV b):=by cases b <;> rfl
theorem c_sHeader:([104,101,97,100,101,114,73,100]:ag)=EU:=rfl
theorem c_sSerial:([115,101,114,105,97,108,78,117,109,98,101,114]:ag)=EV:=rfl
theorem c_sOrder:([111,114,100,101,114,73,100]:ag)=KQ:=rfl
theorem c_sUpdate:([111,114,100,101,114,85,112,100,97,116,101,73,100]:ag)=EW:=rfl
theorem c_tBoot:([98,111,111,116]:ag)=SP:=rfl
theorem c_tLive:([108,105,118,101]:ag)=SQ:=rfl
theorem c_tLast:([108,97,115,116,78,111,100,101,73,100]:ag)=SR:=rfl
theorem c_tSeq:([108,97,115,116,78,111,100,101,83,101,113,117,101,110,99,101,73,100]:ag)=tSeq:=rfl
theorem c_tDriving:([100,114,105,118,105,110,103]:ag)=zZ:=rfl
theorem c_tAccepted:([97,99,99,101,112,116,101,100]:ag)=uX:=rfl
theorem zs_getD (l:ag) (i:Nat) (d:Int) (h:i<l.length):(zs l).getD i d=((l.getD i 0).toNat:Int):=by
 rw[getD_at (by rw[Ey]; exact h),getD_at h,List.getElem_map]
theorem zs_set (l:ag) (i:Nat) (b:UInt8):(zs l).set i (b.toNat:Int)=zs (l.set i b):=by
 unfold zs
 rw[List.map_set]
theorem fitB_at (b:UInt8):((([97,98,99,120,121,122,65,66,67,88,89,90,48,49,56,57,95,46,58,45]:ag).getD (Int.tmod (IntKind.i64.wrap (b.toNat:Int)) 20).toNat 0).toNat:Int)=((fitB b).toNat:Int)∧0≤Int.tmod (IntKind.i64.wrap (b.toNat:Int)) 20∧Int.tmod (IntKind.i64.wrap (b.toNat:Int)) 20<20:=by
 have h8:=UInt8.toNat_lt b
 have e:Int.tmod (b.toNat:Int) 20=((b.toNat % 20:Nat):Int):=by
  rw[Int.tmod_eq_emod_of_nonneg (by omega)]
  omega
 rw[cL (by omega) (by omega),e]
 exact ⟨rfl,by omega,by omega⟩
theorem fit07_loop {R:Type} (s:ag) (hs:s.length≤15) (e0:Nat→List Int→Option R):∀(F j:Nat),j≤s.length→s.length - j<F →
  dP F (s.length+1) ((j+1:Nat):Int) (zs (CW s j)) e0=e0 (s.length+1) (zs (CW s s.length)):=by
 intro F
 induction F with
 | zero=>intro j _ hF; omega
 | succ F ih =>
  intro j hj hF
  show Ag (fun x0 x1 x2=>dP F x0 x1 x2 e0) (s.length+1) ((j+1:Nat):Int) (zs (CW s j)) e0=_
  unfold Ag
  by_cases h:j<s.length
  ·have hl:(zs (CW s j)).length=s.length+1:=by rw[Ey,RG]
   have hg:(zs (CW s j)).getD ((j+1:Nat):Int).toNat (Ty.bR (.int .u8))=(s[j].toNat:Int):=by
    refine (zs_getD _ (j+1) _ (by rw[RG]; omega)).trans ?_
    rw[fitSt_get s j h]
   obtain ⟨f1,f2,f3⟩:=fitB_at s[j]
   have VO:(zs (CW s j)).set ((j+1:Nat):Int).toNat ((fitB s[j]).toNat:Int)=zs (CW s (j+1)):=by
    rw[Int.toNat_natCast,zs_set,fitSt_set s j h]
   have c1:decide (((j+1:Nat):Int)<((s.length+1:Nat):Int))=true:=aQ (by omega)
   have c2:(decide ((0:Int)≤((j+1:Nat):Int))&&true)=true:=Iw _
   have c3:decide (((j+1:Nat):Int).toNat<(zs (CW s j)).length)=true:=aQ (by rw[hl,Int.toNat_natCast]; omega)
   rw[c1,cond_true,ay c2,ay c3,hg,f1,ay (by rw[aQ f2,aQ f3]; rfl),ay c2,ay c3,VO,aaL (show j+1<s.length+1 by omega) (by omega)]
   exact ih (j+1) (by omega) (by omega)
  ·have e:j=s.length:=by omega
   rw[cv (show ¬((j+1:Nat):Int)<((s.length+1:Nat):Int) by omega),cond_false,e]
theorem fit07 {R:Type} (s:ag) (hs:s.length≤1099511627776) (k:ag→Option R):gb s k=k (X5 s):=by
 unfold gb Qt
 have hm:(min (s.length:Int) 15)=((min s.length 15:Nat):Int):=by omega
 have ht:(s.drop 0).take ((min (s.length:Int) 15).toNat - 0)=s.take 15:=by
  rw[hm,List.drop_zero,Int.toNat_natCast,Nat.sub_zero]
  rcases Nat.le_total s.length 15 with h|h
  ·rw[Nat.min_eq_left h,List.take_length,List.take_of_length_le h]
  ·rw[Nat.min_eq_right h]
 rw[ay (by rw[hm,aQ (by omega),aQ (by omega)]; rfl),ay (by rw[hm]; exact aQ (by omega)),ht]
 have hl:(s.take 15).length≤15:=by rw[List.length_take]; omega
 rw[ay (aQ (by omega))]
 have e0:([110]:ag)++s.take 15=CW (s.take 15) 0:=by simp[CW]
 rw[e0,RG]
 refine (fit07_loop (s.take 15) hl _ _ 0 (by omega) (by rw[Bi,Ey,RG]; omega)).trans ?_
 rw[fitSt_end]
 show k (wm (zs (X5 s)))=_
 rw[tR]
structure RawO (o:Order):Prop where
 header:yx o.header
 order:yx o.order
 update:yx o.update
 name:o.bc.length≤1099511627776
 many:o.nodes.length≤1099511627776∧o.Ji.length≤1099511627776
 node:∀x∈o.nodes,yx x.node∧yx x.seq
end Go.Proofs.YtidfokedcnhahaaGreatDoor
/-
 Functions of the program as pure Lean functions, and the ties; printed by wip/tools/emit.py.
-/
set_option maxRecDepth 100000
namespace Go.Proofs.YtidfokedcnhahaaGreatDoor
open Go Go.aq
variable {R:Type}
end Go.Proofs.YtidfokedcnhahaaGreatDoor
/-
 Functions of the program as pure Lean functions, and the ties; printed by wip/tools/emit.py.
-/
set_option maxRecDepth 100000
namespace Go.Proofs.YtidfokedcnhahaaGreatDoor
open Go Go.aq
variable {R:Type}
end Go.Proofs.YtidfokedcnhahaaGreatDoor
set_option maxRecDepth 100000
namespace Go.Proofs.YtidfokedcnhahaaGreatDoor
open Go Go.aq Go.Lib
theorem RH {n:Int} (h:Small 1048576 (.int .i64 n)):yx n:=nV.1 h.fi
theorem u8_turn (c:Int) (h:IntKind.u8.has c):IntKind.u8.wrap (1+Int.tmod c 255)=(((1+UInt8.ofNat c.toNat % 255:UInt8)).toNat:Int)∧(UInt8.ofNat c.toNat).toNat=c.toNat:=by
 have hb:0≤c∧c<256:=by
  have:=h
  simp only[IntKind.has,IntKind.min,IntKind.max,IntKind.bits,IntKind.signed]at this
  simp at this
  omega
 have all:∀n:Fin 256,IntKind.u8.wrap (1+Int.tmod (n.val:Int) 255)=(((1+UInt8.ofNat n.val % 255:UInt8)).toNat:Int)∧(UInt8.ofNat n.val).toNat=n.val:=by decide +kernel
 have:=all ⟨c.toNat,by omega⟩
 simp only at this
 have e:((c.toNat:Nat):Int)=c:=by omega
 rw[e]at this
 exact this
theorem of8 (a:UInt8):(BitVec.ofInt IntKind.u8.bits (a.toNat:Int)).toNat=a.toNat:=by
 have:=UInt8.toNat_lt a
 rw[BitVec.toNat_ofInt]
 show ((a.toNat:Int) % ((256:Nat):Int)).toNat=_
 omega
theorem xor8 (a b:UInt8):IntKind.u8.wrap ((BitVec.ofInt IntKind.u8.bits (a.toNat:Int) ^^^ BitVec.ofInt IntKind.u8.bits (b.toNat:Int)).toNat:Int)=((a ^^^ b).toNat:Int):=by
 have h:=UInt8.toNat_lt (a ^^^ b)
 rw[BitVec.toNat_xor,of8,of8,←UInt8.toNat_xor,wrap8,Nat.mod_eq_of_lt (by omega)]
theorem bstr_one (c:Int):(List.map (fun n:Int=>UInt8.ofNat n.toNat) [c]:ag) = [UInt8.ofNat c.toNat]:=rfl
theorem turned_text (w:ag) (j:Nat) (hj:j<w.length) (c:Int) (hc:IntKind.u8.has c):(List.map (fun n:Int=>UInt8.ofNat n.toNat) ((gS w).set j (IntKind.u8.wrap ((BitVec.ofInt IntKind.u8.bits ((gS w).getD j (Ty.bR (.int .u8))) ^^^ BitVec.ofInt IntKind.u8.bits (IntKind.u8.wrap (1+Int.tmod c 255))).toNat:Int))):ag)=w.set j (w[j] ^^^ (1+UInt8.ofNat c.toNat % 255)):=by
 have hg:(gS w).getD j (Ty.bR (.int .u8))=(w[j].toNat:Int):=by
  refine (zs_getD w j _ hj).trans ?_
  rw[getD_at hj]
 rw[hg,(u8_turn c hc).1,xor8,Bi,zs_set]
 exact tR _
theorem xc (a b:bO):lA a b=true↔b.dc<a.dc∨(a.dc=b.dc∧b.header<a.header):=by
 unfold lA
 rw[Bool.or_eq_true,Bool.and_eq_true,decide_eq_true_eq,decide_eq_true_eq,decide_eq_true_eq]
theorem newerA_self (a:bO):lA a a=false:=Bool.eq_false_iff.2 fun h=>by
 have:=(xc a a).1 h
 omega
theorem Xr {a b:bO} (h:a.dc=b.dc∧a.header=b.header):lA a b=false:=Bool.eq_false_iff.2 fun h'=>by
 have:=(xc a b).1 h'
 omega
theorem newerA_one {a b:bO} (h:¬(a.dc=b.dc∧a.header=b.header)):lA b a = !lA a b:=by
 cases e:lA a b with
 | true =>
  have:=(xc a b).1 e
  exact Bool.eq_false_iff.2 fun h'=>by
   have:=(xc b a).1 h'
   omega
 | false =>
  have e':¬lA a b=true:=by rw[e]; decide
  rw[xc]at e'
  exact (xc b a).2 (by omega)
theorem newerA_trans {a b c:bO} (h1:lA a b=true) (h2:lA b c=true):lA a c=true:=by
 rw[xc]at h1 h2 ⊢
 omega
theorem newerA_law (a b c:bO):(bif lA a a||(((a.dc==b.dc)&&(a.header==b.header))&&(lA a b||lA b a))||(!((a.dc==b.dc)&&(a.header==b.header))&&(lA a b==lA b a))then false else (!lA a b || !lA b c||lA a c))=true:=by
 rw[newerA_self,Bool.false_or]
 by_cases h:a.dc=b.dc∧a.header=b.header
 ·rw[Xr h,Xr ⟨h.1.symm,h.2.symm⟩,beq_iff_eq.2 h.1,beq_iff_eq.2 h.2]
  rfl
 ·have e:((a.dc==b.dc)&&(a.header==b.header))=false:=by
   rw[Bool.eq_false_iff,ne_eq,Bool.and_eq_true,beq_iff_eq,beq_iff_eq]
   exact h
  rw[e,newerA_one h]
  cases h1:lA a b with
  | false=>rfl
  | true =>
   cases h2:lA b c with
   | false=>rfl
   | true=>rw[newerA_trans h1 h2]; rfl
end Go.Proofs.YtidfokedcnhahaaGreatDoor
/-
 Functions of the program as pure Lean functions, and the ties; printed by wip/tools/emit.py.
-/
set_option maxRecDepth 100000
namespace Go.Proofs.YtidfokedcnhahaaGreatDoor
open Go Go.aq
variable {R:Type}
/-! ### humpyard/state.Newer -/
abbrev xd (R:Type):Type:=aq.State→aq.State→(Bool→Option R)→Option R
abbrev KR:List cY := [.agg [.int .i64, .int .i64, .str, .int .i64, .int .i64, .bool, .int .i64, .int .i64, .bool, .int .i64], .agg [.int .i64, .int .i64, .str, .int .i64, .int .i64, .bool, .int .i64, .int .i64, .bool, .int .i64]]
abbrev KS:List aY := []
def QR (fn:xd R):jU R KR KS:=fun x y k=>fn (⟨x.1.1,x.1.2.1,x.1.2.2.1,x.1.2.2.2.1,x.1.2.2.2.2.1,x.1.2.2.2.2.2.1,x.1.2.2.2.2.2.2.1,x.1.2.2.2.2.2.2.2.1,(t8 x.1).1,(t8 x.1).2.1⟩:aq.State) (⟨x.2.1.1,x.2.1.2.1,x.2.1.2.2.1,x.2.1.2.2.2.1,x.2.1.2.2.2.2.1,x.2.1.2.2.2.2.2.1,x.2.1.2.2.2.2.2.2.1,x.2.1.2.2.2.2.2.2.2.1,(t8 x.2.1).1,(t8 x.2.1).2.1⟩:aq.State) (fun q0=>k (.bool q0) [])
def KT (fn:xd R):=aC KR KS (QR fn)
section
variable (gu:tQ R) (oX:ES R)
def SS:List (lC R) := [(93,true,(JS gu av)),(92,true,(Vi oX av))]
def KU (x1:aq.State) (x2:aq.State) (k0:Bool→Option R):Option R :=
 gu x1.dc x2.dc (fun y3=>gu x1.header x2.header (fun y4=>oX ([y3,y4]:List Int) (fun y5=>k0 (decide (y5>(0:Int))))))
theorem aaM:dD (R:=R) tt (SS gu oX) nK false Tryz.f43 KR KS (QR (KU gu oX)):=fun x y k=>by kernel_rfl
end
theorem X6:cr (R:=R) Tryz.prog (SS (R:=R) gu oX) := .c (QI R) <| .c (X1 R) <| .n
def cX:xd R:=fun x1 x2 k0=>KU gu oX x1 x2 k0
theorem Mc (R:Type):jT Tryz.prog 43 (KT (cX (R:=R))):=bj TT mixed (X6 (R:=R)) rfl rfl rfl rfl bX (aaM gu oX)
/-! ### humpyard/humpyardlaw09.awake -/
abbrev k8 (R:Type):Type:=(Bool→Option R)→Option R
abbrev KV:List cY := []
abbrev KW:List aY := []
def QS (fn:k8 R):jU R KV KW:=fun x y k=>fn (fun q0=>k (.bool q0) [])
def rB (fn:k8 R):=aC KV KW (QS fn)
section
variable (bQ:nY R) (bl:n0 R) (cX:xd R) (aE:fL R) (br:oo R)
def SU:List (lC R) := [(28,true,(A9 bQ av)),(39,true,(w9 bl av)),(43,true,(KT cX av)),(41,true,(rh aE av)),(46,true,(xD br av))]
def KX (k0:Bool→Option R):Option R :=
 bl (⟨1,2,([118]:ag),3,4,true,5,6,true,7⟩:aq.State) (fun y1 y2=>br y1 (fun y3 y4=>bl (⟨0,0,([]:ag),0,0,false,0,0,false,0⟩:aq.State) (fun y5 y6=>bif (y2==0)then (bQ ([123,34,104,101,97,100,101,114,73,100,34,58,49,44,34,98,111,111,116,34,58,50,44,34,115,101,114,105,97,108,78,117,109,98,101,114,34,58,34,118,34,44,34,111,114,100,101,114,73,100,34,58,51,44,34,111,114,100,101,114,85,112,100,97,116,101,73,100,34,58,52,44,34,108,105,118,101,34,58,116,114,117,101,44,34,108,97,115,116,78,111,100,101,73,100,34,58,53,44,34,108,97,115,116,78,111,100,101,83,101,113,117,101,110,99,101,73,100,34,58,54,44,34,100,114,105,118,105,110,103,34,58,116,114,117,101,44,34,97,99,99,101,112,116,101,100,34,58,55,125]:ag) (fun y7=>bif (y1==y7)then (bif (decide ((y1.length:Int)>(100:Int)))then (bif (y4==0)then (bif (y3.header==1&&(y3.dc==2&&(y3.bc==([118]:ag)&&(y3.order==3&&(y3.update==4&&(y3.live==true&&(y3.node==5&&(y3.seq==6&&(y3.bz==true&&(y3.accepted==7&&true))))))))))then (bif (y6==1)then (cX (⟨5,1,([]:ag),0,0,false,0,0,false,0⟩:aq.State) (⟨0,2,([]:ag),0,0,false,0,0,false,0⟩:aq.State) (fun y8=>bif (!y8)then (aE (⟨1,2,([118]:ag),3,4,true,5,6,true,7⟩:aq.State) (fun y9=>k0 y9))else (k0 false)))else (k0 false))else (k0 false))else (k0 false))else (k0 false))else (k0 false)))else (k0 false))))
theorem aaN:dD (R:=R) tt (SU bQ bl cX aE br) nK false Tryz.f37 KV KW (QS (KX bQ bl cX aE br)):=fun x y k=>by kernel_rfl
end
theorem X7:cr (R:=R) Tryz.prog (SU (R:=R) bQ bl cX aE br) := .c (w8 R) <| .c (sW R) <| .c (Mc R) <| .c (oy R) <| .c (uJ R) <| .n
def aX:k8 R:=fun  k0=>KX bQ bl cX aE br  k0
theorem oB (R:Type):jT Tryz.prog 37 (rB (aX (R:=R))):=bj TT mixed (X7 (R:=R)) rfl rfl rfl rfl bX (aaN bQ bl cX aE br)
/-! ### humpyard/humpyardlaw09.pick -/
abbrev rC (R:Type):Type:=Int→Int→(Int→Option R)→Option R
abbrev N6:List cY := [.leaf (.int .i64), .leaf (.int .i64)]
abbrev N7:List aY := []
def SV (fn:rC R):jU R N6 N7:=fun x y k=>fn x.1 x.2.1 (fun q0=>k (.int .i64 q0) [])
def CZ (fn:rC R):=aC N6 N7 (SV fn)
section
def Vv (x1:Int) (x2:Int) (k0:Int→Option R):Option R :=
 bif (decide (x1<(0:Int)))then (cw (!decide (x2=0)) (k0 (Int.tmod (IntKind.i64.wrap (0 - (IntKind.i64.wrap (x1+1)))) x2)))else (cw (!decide (x2=0)) (k0 (Int.tmod x1 x2)))
theorem law09_pick_ok:dD (R:=R) tt [] nK false Tryz.f45 N6 N7 (SV Vv):=fun x y k=>by kernel_rfl
end
def bJ:rC R:=fun x1 x2 k0=>Vv x1 x2 k0
theorem Ah (R:Type):jT Tryz.prog 45 (CZ (bJ (R:=R))):=bj TT mixed .n rfl rfl rfl rfl bX (law09_pick_ok)
/-! ### humpyard/humpyardlaw09.Fit -/
abbrev qA (R:Type):Type:=aq.State→(aq.State→Option R)→Option R
abbrev QT:List cY := [.agg [.int .i64, .int .i64, .str, .int .i64, .int .i64, .bool, .int .i64, .int .i64, .bool, .int .i64]]
abbrev QU:List aY := []
def Vw (fn:qA R):jU R QT QU:=fun x y k=>fn (⟨x.1.1,x.1.2.1,x.1.2.2.1,x.1.2.2.2.1,x.1.2.2.2.2.1,x.1.2.2.2.2.2.1,x.1.2.2.2.2.2.2.1,x.1.2.2.2.2.2.2.2.1,(t8 x.1).1,(t8 x.1).2.1⟩:aq.State) (fun q0=>k (.agg [.int .i64 q0.header, .int .i64 q0.dc, .str q0.bc, .int .i64 q0.order, .int .i64 q0.update, .bool q0.live, .int .i64 q0.node, .int .i64 q0.seq, .bool q0.bz, .int .i64 q0.accepted]) [])
def Bk (fn:qA R):=aC QT QU (Vw fn)
section
variable (gb:Ct R) (bJ:rC R)
def Xs:List (lC R) := [(33,true,(Qs gb av)),(45,true,(CZ bJ av))]
def QV (x1:aq.State) (k0:aq.State→Option R):Option R :=
 bJ x1.header 1000000001 (fun y2=>bJ x1.dc 1000000001 (fun y3=>gb x1.bc (fun y4=>bJ x1.order 1000000001 (fun y5=>bJ x1.update 1000000001 (fun y6=>bif x1.live then (bJ x1.node 1000000001 (fun y7=>bJ x1.seq 500000001 (fun y8=>bJ x1.accepted 1000000001 (fun y9=>k0 (⟨y2,y3,y4,y5,y6,true,y7,(IntKind.i64.wrap (2*y8)),x1.bz,y9⟩:aq.State)))))else (bJ x1.node 1000000001 (fun od=>bJ x1.seq 500000001 (fun ug=>bJ x1.accepted 1000000001 (fun zj=>k0 (⟨y2,y3,y4,y5,y6,x1.bz,od,(IntKind.i64.wrap (2*ug)),x1.bz,zj⟩:aq.State))))))))))
theorem law09_Fit_ok:dD (R:=R) tt (Xs gb bJ) nK false Tryz.f38 QT QU (Vw (QV gb bJ)):=fun x y k=>by kernel_rfl
end
theorem law09_Fit_EOk:cr (R:=R) Tryz.prog (Xs (R:=R) gb bJ) := .c (Qu R) <| .c (Ah R) <| .n
def cb:qA R:=fun x1 k0=>QV gb bJ x1 k0
theorem xe (R:Type):jT Tryz.prog 38 (Bk (cb (R:=R))):=bj TT mixed (law09_Fit_EOk (R:=R)) rfl rfl rfl rfl bX (law09_Fit_ok gb bJ)
end Go.Proofs.YtidfokedcnhahaaGreatDoor
set_option maxRecDepth 100000
namespace Go.Proofs.YtidfokedcnhahaaGreatDoor
open Go Go.aq Go.Lib
theorem min_loop {R:Type} (l:List Int) (hl:l.length≤1000) (e0:Int→Option R):∀(F i:Nat) (m:Int),i≤l.length→l.length - i<F →
  cg F l m (i:Int) e0=e0 ((l.drop i).foldl min m):=by
 intro F
 induction F with
 | zero=>intro i m _ hF; omega
 | succ F ih =>
  intro i m hi hF
  show mR (fun x0 x1 x2=>cg F x0 x1 x2 e0) l m (i:Int) e0=_
  unfold mR
  by_cases h:i<l.length
  ·have hg:l.getD (i:Int).toNat (Ty.bR (.int .i64))=l[i]:=getD_at h _
   rw[aQ (show (i:Int)<(l.length:Int) by omega),cond_true,ay (Iw i),hg,aaL h (by omega)]
   dsimp only
   rw[ih (i+1) _ (by omega) (by omega),List.drop_eq_getElem_cons h]
   rfl
  ·rw[cv (show ¬(i:Int)<(l.length:Int) by omega),cond_false,List.drop_eq_nil_of_le (by omega)]
   rfl
theorem min_ok {R:Type} (a:Int) (l:List Int) (hl:l.length≤100) (k:Int→Option R):fJ (a::l) k=k (l.foldl min a):=by
 unfold fJ yG
 rw[cv (show ¬(((a::l).length:Nat):Int)<1 by simp only[List.length_cons]; omega),cond_false,ay (aQ (by simp only[List.length_cons]; omega))]
 have hg:(a::l).getD 0 (Ty.bR (.int .i64))=a:=rfl
 rw[hg]
 refine (min_loop (a::l) (by simp only[List.length_cons]; omega) _ _ 1 a (by simp) (by simp only[List.length_cons]; omega)).trans ?_
 rfl
theorem max_loop {R:Type} (l:List Int) (hl:l.length≤1000) (e0:Int→Option R):∀(F i:Nat) (m:Int),i≤l.length→l.length - i<F →
  cj F l m (i:Int) e0=e0 ((l.drop i).foldl max m):=by
 intro F
 induction F with
 | zero=>intro i m _ hF; omega
 | succ F ih =>
  intro i m hi hF
  show mT (fun x0 x1 x2=>cj F x0 x1 x2 e0) l m (i:Int) e0=_
  unfold mT
  by_cases h:i<l.length
  ·have hg:l.getD (i:Int).toNat (Ty.bR (.int .i64))=l[i]:=getD_at h _
   rw[aQ (show (i:Int)<(l.length:Int) by omega),cond_true,ay (Iw i),hg,aaL h (by omega)]
   dsimp only
   rw[ih (i+1) _ (by omega) (by omega),List.drop_eq_getElem_cons h]
   rfl
  ·rw[cv (show ¬(i:Int)<(l.length:Int) by omega),cond_false,List.drop_eq_nil_of_le (by omega)]
   rfl
theorem max_ok {R:Type} (a:Int) (l:List Int) (hl:l.length≤100) (k:Int→Option R):fK (a::l) k=k (l.foldl max a):=by
 unfold fK yJ
 rw[cv (show ¬(((a::l).length:Nat):Int)<1 by simp only[List.length_cons]; omega),cond_false,ay (aQ (by simp only[List.length_cons]; omega))]
 have hg:(a::l).getD 0 (Ty.bR (.int .i64))=a:=rfl
 rw[hg]
 refine (max_loop (a::l) (by simp only[List.length_cons]; omega) _ _ 1 a (by simp) (by simp only[List.length_cons]; omega)).trans ?_
 rfl
theorem min_ge:∀(l:List Int) (a x:Int),x≤l.foldl min a↔x≤a∧∀y∈l,x≤y
 | [],a,x=>by simp
 | b::l,a,x=>by
  rw[List.foldl_cons,min_ge l]
  simp only[List.mem_cons,forall_eq_or_imp]
  constructor
  ·rintro ⟨h1,h2⟩; exact ⟨by omega,by omega,h2⟩
  ·rintro ⟨h1,h2,h3⟩; exact ⟨by omega,h3⟩
theorem max_le:∀(l:List Int) (a x:Int),l.foldl max a≤x↔a≤x∧∀y∈l,y≤x
 | [],a,x=>by simp
 | b::l,a,x=>by
  rw[List.foldl_cons,max_le l]
  simp only[List.mem_cons,forall_eq_or_imp]
  constructor
  ·rintro ⟨h1,h2⟩; exact ⟨by omega,by omega,h2⟩
  ·rintro ⟨h1,h2,h3⟩; exact ⟨by omega,h3⟩
theorem both_all (a:Int) (l:List Int):(decide (l.foldl min a≥0)&&decide (l.foldl max a≤1000000000))=(a::l).all jH:=by
 rw[Bool.eq_iff_iff,Bool.and_eq_true,decide_eq_true_eq,decide_eq_true_eq,ge_iff_le,min_ge,max_le,List.all_eq_true]
 simp only[List.mem_cons,forall_eq_or_imp,HC]
 constructor
 ·rintro ⟨⟨h1,h2⟩,h3,h4⟩; exact ⟨⟨h1,h3⟩,fun y hy=>⟨h2 y hy,h4 y hy⟩⟩
 ·rintro ⟨⟨h1,h3⟩,h2⟩; exact ⟨⟨h1,fun y hy=>(h2 y hy).1⟩,h3,fun y hy=>(h2 y hy).2⟩
theorem FH {R:Type} (s:bO) (k:Bool→Option R):aE s k=k (jS s):=by
 unfold aE KB
 rw[topicName_ok,min_ok _ _ (by simp),max_ok _ _ (by simp)]
 have hb:=both_all s.header [s.dc,s.order,s.update,s.node,s.seq,s.accepted]
 have hr:jS s=(CV s.bc&&(([s.header,s.dc,s.order,s.update,s.node,s.seq,s.accepted]:List Int).all jH&&(decide (Int.tmod s.seq 2=0)&&(s.live || !s.bz)))):=by
  unfold jS
  simp only[List.all_cons,List.all_nil,Bool.and_true]
 rw[hr,←hb,beq_dec]
 cases CV s.bc <;> cases decide (List.foldl min s.header [s.dc,s.order,s.update,s.node,s.seq,s.accepted]≥0) <;> cases decide (List.foldl max s.header [s.dc,s.order,s.update,s.node,s.seq,s.accepted]≤1000000000) <;> cases decide (Int.tmod s.seq 2=0) <;> cases s.live <;> rfl
def cmpI (x y:Int):Int:=if x<y then -1 else if x>y then 1 else 0
theorem cmpI_ok {R:Type} (x y:Int) (k:Int→Option R):gu x y k=k (cmpI x y):=by
 unfold gu CM jz Gh cmpI
 have hx:(x != x)=false:=by simp
 have hy:(y != y)=false:=by simp
 rw[hx,hy]
 dsimp only
 rw[cond_false,cond_false]
 by_cases h1:x<y
 ·rw[aQ h1,if_pos h1]; rfl
 ·rw[cv h1,if_neg h1,cond_false]
  by_cases h2:x>y
  ·rw[aQ h2,if_pos h2]; rfl
  ·rw[cv h2,if_neg h2]; rfl
theorem or_loop {R:Type} (l:List Int) (hl:l.length≤1000) (e0:Int→Option R) (e1:Int→Int→Option R):∀(F i:Nat),i≤l.length→l.length - i<F →
  dC F 0 l (l.length:Int) (i:Int) e0 e1=match (l.drop i).find? (· != 0)with|some x=>e1 x 0|none=>e0 0:=by
 intro F
 induction F with
 | zero=>intro i _ hF; omega
 | succ F ih =>
  intro i hi hF
  show xG (fun x0 x1 x2 x3=>dC F x0 x1 x2 x3 e0 e1) 0 l (l.length:Int) (i:Int) e0 e1=_
  unfold xG
  by_cases h:i<l.length
  ·have hg:l.getD (i:Int).toNat (Ty.bR (.int .i64))=l[i]:=getD_at h _
   rw[aQ (show (i:Int)<(l.length:Int) by omega),cond_true,ay (Iw i),hg,aaL h (by omega)]
   dsimp only
   rw[ih (i+1) (by omega) (by omega),List.drop_eq_getElem_cons h,List.find?_cons]
   cases l[i] != 0 <;> rfl
  ·rw[cv (show ¬(i:Int)<(l.length:Int) by omega),cond_false,List.drop_eq_nil_of_le (by omega)]
   rfl
theorem or_ok {R:Type} (a b:Int) (k:Int→Option R):oX [a,b] k=k (if a≠0 then a else b):=by
 unfold oX NW
 refine (or_loop [a,b] (by simp) _ _ _ 0 (by simp) (by simp only[List.length_cons,List.length_nil]; omega)).trans ?_
 rw[List.drop_zero,List.find?_cons,List.find?_cons,bne_cond,bne_cond]
 by_cases h1:a=0
 ·rw[aQ h1,if_neg (by simp[h1])]
  by_cases h2:b=0
  ·rw[aQ h2,h2]; rfl
  ·rw[cv h2]; rfl
 ·rw[cv h1,if_pos h1]; rfl
theorem Xt {R:Type} (a b:bO) (k:Bool→Option R):cX a b k=k (lA a b):=by
 unfold cX KU
 rw[cmpI_ok,cmpI_ok,or_ok]
 congr 1
 rw[Bool.eq_iff_iff,xc,decide_eq_true_eq]
 unfold cmpI
 split <;> split <;> (try split) <;> (try split) <;> omega
theorem l_045a {R:Type} (s:bO) (hk:jH s.header=true) (k:Json→bO→Option R):dn s k=k (AM s.header) s:=by
 unfold dn u6
 rw[QQ hk,Json.eta]
theorem l_1d47 {R:Type} (s:bO) (hk:jH s.dc=true) (k:Json→bO→Option R):dp s k=k (AM s.dc) s:=by
 unfold dp vb
 rw[QQ hk,Json.eta]
theorem l_f449 {R:Type} (s:bO) (k:Json→bO→Option R):ef s k=k (strV s.bc) s:=by
 unfold ef yM
 rw[str_ok,Json.eta]
theorem l_e814 {R:Type} (s:bO) (hk:jH s.order=true) (k:Json→bO→Option R):dq s k=k (AM s.order) s:=by
 unfold dq vf
 rw[QQ hk,Json.eta]
theorem l_86d3 {R:Type} (s:bO) (hk:jH s.update=true) (k:Json→bO→Option R):dt s k=k (AM s.update) s:=by
 unfold dt vi
 rw[QQ hk,Json.eta]
theorem l_a989 {R:Type} (s:bO) (k:Json→bO→Option R):eg s k=k (yesV s.live) s:=by
 unfold eg yP
 rw[yes_ok,Json.eta]
theorem l_3183 {R:Type} (s:bO) (hk:jH s.node=true) (k:Json→bO→Option R):du s k=k (AM s.node) s:=by
 unfold du vl
 rw[QQ hk,Json.eta]
theorem l_e1c6 {R:Type} (s:bO) (hk:jH s.seq=true) (k:Json→bO→Option R):dv s k=k (AM s.seq) s:=by
 unfold dv vo
 rw[QQ hk,Json.eta]
theorem l_947c {R:Type} (s:bO) (k:Json→bO→Option R):eh s k=k (yesV s.bz) s:=by
 unfold eh yS
 rw[yes_ok,Json.eta]
theorem l_c9ad {R:Type} (s:bO) (hk:jH s.accepted=true) (k:Json→bO→Option R):dw s k=k (AM s.accepted) s:=by
 unfold dw vu
 rw[QQ hk,Json.eta]
theorem mk_state (a b c d e f g h i j:Json):Pu.mk lx [a,b,c,d,e,f,g,h,i,j] [] []=(lx, [a,b,c,d,e,f,g,h,i,j]):=by kernel_rfl
theorem itemsA_jok {s:bO} (hk:OkA s):∀y∈ly s,Pu.Hk y:=by
 have h1:=xb.1 (HB (eH s) 1 (FF hk) (by have:=HD hk; omega)).1
 exact N4 (ly s) 2 (Wz (JX hk).1.right) h1.2.2.1
theorem layA_ok {R:Type} (s:bO) (k:ag→Int→Option R):bl s k=if jS s then k (ew (cE (eH s))) 0 else k [] 1:=by
 unfold bl QE
 rw[FH]
 cases h:jS s with
 | false=>rfl
 | true =>
  have hk:=Bj h
  have hlen:=HD hk
  rw[Bool.not_true,cond_false,l_045a s hk.header,l_1d47 s hk.dc,l_f449,l_e814 s hk.order,l_86d3 s hk.update,l_a989,l_3183 s hk.node,l_e1c6 s hk.seq,l_947c,l_c9ad s hk.accepted]
  refine (Pu.make_eq lx (ly s) (by decide) (itemsA_jok hk) _).trans ?_
  have e:Pu.mk lx (ly s) [] []=(lx,ly s):=mk_state _ _ _ _ _ _ _ _ _ _
  rw[e]
  refine (aat (eH s) (FF hk) (HB (eH s) 1 (FF hk) (by omega)).1 (by omega) _).trans ?_
  rw[N5 _ (by omega)]
  rfl
theorem t_7ba2_some {R:Type} {v:Json} (hv:Pu.Hk v) {w:ag} {x:Int} (hx:dQ v w=some x) (a:Int) (b:Int) (c:ag) (d:Int) (e:Int) (f:Bool) (g:Int) (h:Int) (i:Bool) (j:Int) (q:Bool→ag→bO→Option R):bB v w ⟨a,b,c,d,e,f,g,h,i,j⟩ q=q true w ⟨x,b,c,d,e,f,g,h,i,j⟩:=by
 unfold bB o9
 simp only[Json.eta]
 unfold dQ at hx
 rw[Pu.B8 v hv,hx]
theorem t_7ba2_none {R:Type} {v:Json} (hv:Pu.Hk v) {w:ag} (hx:dQ v w=none) (a:Int) (b:Int) (c:ag) (d:Int) (e:Int) (f:Bool) (g:Int) (h:Int) (i:Bool) (j:Int) (q:Bool→ag→bO→Option R):bB v w ⟨a,b,c,d,e,f,g,h,i,j⟩ q=q false w ⟨0,b,c,d,e,f,g,h,i,j⟩:=by
 unfold bB o9
 simp only[Json.eta]
 unfold dQ at hx
 rw[Pu.B8 v hv,hx]
theorem t_40a7_some {R:Type} {v:Json} (hv:Pu.Hk v) {w:ag} {x:Int} (hx:dQ v w=some x) (a:Int) (b:Int) (c:ag) (d:Int) (e:Int) (f:Bool) (g:Int) (h:Int) (i:Bool) (j:Int) (q:Bool→ag→bO→Option R):bC v w ⟨a,b,c,d,e,f,g,h,i,j⟩ q=q true w ⟨a,x,c,d,e,f,g,h,i,j⟩:=by
 unfold bC pa
 simp only[Json.eta]
 unfold dQ at hx
 rw[Pu.B8 v hv,hx]
theorem t_40a7_none {R:Type} {v:Json} (hv:Pu.Hk v) {w:ag} (hx:dQ v w=none) (a:Int) (b:Int) (c:ag) (d:Int) (e:Int) (f:Bool) (g:Int) (h:Int) (i:Bool) (j:Int) (q:Bool→ag→bO→Option R):bC v w ⟨a,b,c,d,e,f,g,h,i,j⟩ q=q false w ⟨a,0,c,d,e,f,g,h,i,j⟩:=by
 unfold bC pa
 simp only[Json.eta]
 unfold dQ at hx
 rw[Pu.B8 v hv,hx]
theorem t_3696_some {R:Type} {v:Json} (hv:Pu.Hk v) {w:ag} {x:ag} (hx:Ir v w=some x) (a:Int) (b:Int) (c:ag) (d:Int) (e:Int) (f:Bool) (g:Int) (h:Int) (i:Bool) (j:Int) (q:Bool→ag→bO→Option R):bY v w ⟨a,b,c,d,e,f,g,h,i,j⟩ q=q true w ⟨a,b,x,d,e,f,g,h,i,j⟩:=by
 unfold bY r4
 simp only[Json.eta]
 unfold Ir at hx
 rw[Pu.Text_eq v hv,hx]
theorem t_3696_none {R:Type} {v:Json} (hv:Pu.Hk v) {w:ag} (hx:Ir v w=none) (a:Int) (b:Int) (c:ag) (d:Int) (e:Int) (f:Bool) (g:Int) (h:Int) (i:Bool) (j:Int) (q:Bool→ag→bO→Option R):bY v w ⟨a,b,c,d,e,f,g,h,i,j⟩ q=q false w ⟨a,b, [],d,e,f,g,h,i,j⟩:=by
 unfold bY r4
 simp only[Json.eta]
 unfold Ir at hx
 rw[Pu.Text_eq v hv,hx]
theorem t_eb61_some {R:Type} {v:Json} (hv:Pu.Hk v) {w:ag} {x:Int} (hx:dQ v w=some x) (a:Int) (b:Int) (c:ag) (d:Int) (e:Int) (f:Bool) (g:Int) (h:Int) (i:Bool) (j:Int) (q:Bool→ag→bO→Option R):bD v w ⟨a,b,c,d,e,f,g,h,i,j⟩ q=q true w ⟨a,b,c,x,e,f,g,h,i,j⟩:=by
 unfold bD pb
 simp only[Json.eta]
 unfold dQ at hx
 rw[Pu.B8 v hv,hx]
theorem t_eb61_none {R:Type} {v:Json} (hv:Pu.Hk v) {w:ag} (hx:dQ v w=none) (a:Int) (b:Int) (c:ag) (d:Int) (e:Int) (f:Bool) (g:Int) (h:Int) (i:Bool) (j:Int) (q:Bool→ag→bO→Option R):bD v w ⟨a,b,c,d,e,f,g,h,i,j⟩ q=q false w ⟨a,b,c,0,e,f,g,h,i,j⟩:=by
 unfold bD pb
 simp only[Json.eta]
 unfold dQ at hx
 rw[Pu.B8 v hv,hx]
theorem t_537b_some {R:Type} {v:Json} (hv:Pu.Hk v) {w:ag} {x:Int} (hx:dQ v w=some x) (a:Int) (b:Int) (c:ag) (d:Int) (e:Int) (f:Bool) (g:Int) (h:Int) (i:Bool) (j:Int) (q:Bool→ag→bO→Option R):bE v w ⟨a,b,c,d,e,f,g,h,i,j⟩ q=q true w ⟨a,b,c,d,x,f,g,h,i,j⟩:=by
 unfold bE pc
 simp only[Json.eta]
 unfold dQ at hx
 rw[Pu.B8 v hv,hx]
theorem t_537b_none {R:Type} {v:Json} (hv:Pu.Hk v) {w:ag} (hx:dQ v w=none) (a:Int) (b:Int) (c:ag) (d:Int) (e:Int) (f:Bool) (g:Int) (h:Int) (i:Bool) (j:Int) (q:Bool→ag→bO→Option R):bE v w ⟨a,b,c,d,e,f,g,h,i,j⟩ q=q false w ⟨a,b,c,d,0,f,g,h,i,j⟩:=by
 unfold bE pc
 simp only[Json.eta]
 unfold dQ at hx
 rw[Pu.B8 v hv,hx]
theorem t_dff0_some {R:Type} {v:Json} (hv:Pu.Hk v) {w:ag} {x:Bool} (hx:pG v w=some x) (a:Int) (b:Int) (c:ag) (d:Int) (e:Int) (f:Bool) (g:Int) (h:Int) (i:Bool) (j:Int) (q:Bool→ag→bO→Option R):bZ v w ⟨a,b,c,d,e,f,g,h,i,j⟩ q=q true w ⟨a,b,c,d,e,x,g,h,i,j⟩:=by
 unfold bZ r5
 simp only[Json.eta]
 unfold pG at hx
 rw[Pu.Ys v hv,hx]
theorem t_dff0_none {R:Type} {v:Json} (hv:Pu.Hk v) {w:ag} (hx:pG v w=none) (a:Int) (b:Int) (c:ag) (d:Int) (e:Int) (f:Bool) (g:Int) (h:Int) (i:Bool) (j:Int) (q:Bool→ag→bO→Option R):bZ v w ⟨a,b,c,d,e,f,g,h,i,j⟩ q=q false w ⟨a,b,c,d,e,false,g,h,i,j⟩:=by
 unfold bZ r5
 simp only[Json.eta]
 unfold pG at hx
 rw[Pu.Ys v hv,hx]
theorem t_d444_some {R:Type} {v:Json} (hv:Pu.Hk v) {w:ag} {x:Int} (hx:dQ v w=some x) (a:Int) (b:Int) (c:ag) (d:Int) (e:Int) (f:Bool) (g:Int) (h:Int) (i:Bool) (j:Int) (q:Bool→ag→bO→Option R):bF v w ⟨a,b,c,d,e,f,g,h,i,j⟩ q=q true w ⟨a,b,c,d,e,f,x,h,i,j⟩:=by
 unfold bF pd
 simp only[Json.eta]
 unfold dQ at hx
 rw[Pu.B8 v hv,hx]
theorem t_d444_none {R:Type} {v:Json} (hv:Pu.Hk v) {w:ag} (hx:dQ v w=none) (a:Int) (b:Int) (c:ag) (d:Int) (e:Int) (f:Bool) (g:Int) (h:Int) (i:Bool) (j:Int) (q:Bool→ag→bO→Option R):bF v w ⟨a,b,c,d,e,f,g,h,i,j⟩ q=q false w ⟨a,b,c,d,e,f,0,h,i,j⟩:=by
 unfold bF pd
 simp only[Json.eta]
 unfold dQ at hx
 rw[Pu.B8 v hv,hx]
theorem t_7956_some {R:Type} {v:Json} (hv:Pu.Hk v) {w:ag} {x:Int} (hx:dQ v w=some x) (a:Int) (b:Int) (c:ag) (d:Int) (e:Int) (f:Bool) (g:Int) (h:Int) (i:Bool) (j:Int) (q:Bool→ag→bO→Option R):bG v w ⟨a,b,c,d,e,f,g,h,i,j⟩ q=q true w ⟨a,b,c,d,e,f,g,x,i,j⟩:=by
 unfold bG pe
 simp only[Json.eta]
 unfold dQ at hx
 rw[Pu.B8 v hv,hx]
theorem t_7956_none {R:Type} {v:Json} (hv:Pu.Hk v) {w:ag} (hx:dQ v w=none) (a:Int) (b:Int) (c:ag) (d:Int) (e:Int) (f:Bool) (g:Int) (h:Int) (i:Bool) (j:Int) (q:Bool→ag→bO→Option R):bG v w ⟨a,b,c,d,e,f,g,h,i,j⟩ q=q false w ⟨a,b,c,d,e,f,g,0,i,j⟩:=by
 unfold bG pe
 simp only[Json.eta]
 unfold dQ at hx
 rw[Pu.B8 v hv,hx]
theorem t_0c5b_some {R:Type} {v:Json} (hv:Pu.Hk v) {w:ag} {x:Bool} (hx:pG v w=some x) (a:Int) (b:Int) (c:ag) (d:Int) (e:Int) (f:Bool) (g:Int) (h:Int) (i:Bool) (j:Int) (q:Bool→ag→bO→Option R):ca v w ⟨a,b,c,d,e,f,g,h,i,j⟩ q=q true w ⟨a,b,c,d,e,f,g,h,x,j⟩:=by
 unfold ca r6
 simp only[Json.eta]
 unfold pG at hx
 rw[Pu.Ys v hv,hx]
theorem t_0c5b_none {R:Type} {v:Json} (hv:Pu.Hk v) {w:ag} (hx:pG v w=none) (a:Int) (b:Int) (c:ag) (d:Int) (e:Int) (f:Bool) (g:Int) (h:Int) (i:Bool) (j:Int) (q:Bool→ag→bO→Option R):ca v w ⟨a,b,c,d,e,f,g,h,i,j⟩ q=q false w ⟨a,b,c,d,e,f,g,h,false,j⟩:=by
 unfold ca r6
 simp only[Json.eta]
 unfold pG at hx
 rw[Pu.Ys v hv,hx]
theorem t_b21e_some {R:Type} {v:Json} (hv:Pu.Hk v) {w:ag} {x:Int} (hx:dQ v w=some x) (a:Int) (b:Int) (c:ag) (d:Int) (e:Int) (f:Bool) (g:Int) (h:Int) (i:Bool) (j:Int) (q:Bool→ag→bO→Option R):bH v w ⟨a,b,c,d,e,f,g,h,i,j⟩ q=q true w ⟨a,b,c,d,e,f,g,h,i,x⟩:=by
 unfold bH pf
 simp only[Json.eta]
 unfold dQ at hx
 rw[Pu.B8 v hv,hx]
theorem t_b21e_none {R:Type} {v:Json} (hv:Pu.Hk v) {w:ag} (hx:dQ v w=none) (a:Int) (b:Int) (c:ag) (d:Int) (e:Int) (f:Bool) (g:Int) (h:Int) (i:Bool) (j:Int) (q:Bool→ag→bO→Option R):bH v w ⟨a,b,c,d,e,f,g,h,i,j⟩ q=q false w ⟨a,b,c,d,e,f,g,h,i,0⟩:=by
 unfold bH pf
 simp only[Json.eta]
 unfold dQ at hx
 rw[Pu.B8 v hv,hx]
def outA {R:Type} (k:bO→Int→Option R):Except Int bO→Option R
 | .ok o=>k o 0
 | .error e=>k ⟨0,0, [],0,0,false,0,0,false,0⟩ e
theorem outA_ok {R:Type} (k:bO→Int→Option R) (o:bO):outA k (.ok o)=k o 0:=rfl
theorem Vx {R:Type} (k:bO→Int→Option R) (e:Int):outA k (.error e)=k ⟨0,0, [],0,0,false,0,0,false,0⟩ e:=rfl
theorem Md {R:Type} (s:ag) (hs:s.length≤1099511627776) (k:bO→Int→Option R):br s k=outA k (takeA s):=by
 unfold br NT takeA
 rw[open_ok s hs]
 cases DY s with
 | none=>rfl
 | some t =>
 show cI t _=_
 rw[jparse_ok]
 by_cases he:(pF t).2.1=0
 rotate_left
 ·have c:((pF t).2.1 != 0)=true:=by simpa using he
  rw[c,cond_true]
  simp only[if_pos he,ne_eq,not_true_eq_false,not_false_eq_true,he,if_true]
  rfl
 have c:((pF t).2.1 != 0)=false:=by simpa using he
 rw[c,cond_false]
 have hv:=parse_jok he
 simp only[he,ne_eq,not_true_eq_false,if_false]
 generalize (pF t).1=v at hv ⊢
 simp only[Json.eta,c_sHeader,c_tBoot,c_sSerial,c_sOrder,c_sUpdate,c_tLive,c_tLast,c_tSeq,c_tDriving,c_tAccepted]
 unfold stateT
 cases h0:dQ v EU with
 | none =>
  rw[t_7ba2_none hv h0,Bool.not_false,cond_true]
  rfl
 | some x0 =>
 rw[t_7ba2_some hv h0,Bool.not_true,cond_false]
 cases h1:dQ v SP with
 | none =>
  rw[t_40a7_none hv h1,Bool.not_false,cond_true]
  rfl
 | some x1 =>
 rw[t_40a7_some hv h1,Bool.not_true,cond_false]
 cases h2:Ir v EV with
 | none =>
  rw[t_3696_none hv h2,Bool.not_false,cond_true]
  rfl
 | some x2 =>
 rw[t_3696_some hv h2,Bool.not_true,cond_false]
 cases h3:dQ v KQ with
 | none =>
  rw[t_eb61_none hv h3,Bool.not_false,cond_true]
  rfl
 | some x3 =>
 rw[t_eb61_some hv h3,Bool.not_true,cond_false]
 cases h4:dQ v EW with
 | none =>
  rw[t_537b_none hv h4,Bool.not_false,cond_true]
  rfl
 | some x4 =>
 rw[t_537b_some hv h4,Bool.not_true,cond_false]
 cases h5:pG v SQ with
 | none =>
  rw[t_dff0_none hv h5,Bool.not_false,cond_true]
  rfl
 | some x5 =>
 rw[t_dff0_some hv h5,Bool.not_true,cond_false]
 cases h6:dQ v SR with
 | none =>
  rw[t_d444_none hv h6,Bool.not_false,cond_true]
  rfl
 | some x6 =>
 rw[t_d444_some hv h6,Bool.not_true,cond_false]
 cases h7:dQ v tSeq with
 | none =>
  rw[t_7956_none hv h7,Bool.not_false,cond_true]
  rfl
 | some x7 =>
 rw[t_7956_some hv h7,Bool.not_true,cond_false]
 cases h8:pG v zZ with
 | none =>
  rw[t_0c5b_none hv h8,Bool.not_false,cond_true]
  rfl
 | some x8 =>
 rw[t_0c5b_some hv h8,Bool.not_true,cond_false]
 cases h9:dQ v uX with
 | none =>
  rw[t_b21e_none hv h9,Bool.not_false,cond_true]
  rfl
 | some x9 =>
 rw[t_b21e_some hv h9,Bool.not_true,cond_false]
 rw[FH]
 simp only
 cases jS ⟨x0,x1,x2,x3,x4,x5,x6,x7,x8,x9⟩ <;> rfl
structure RawA (s:bO):Prop where
 header:yx s.header
 dc:yx s.dc
 order:yx s.order
 update:yx s.update
 node:yx s.node
 seq:yx s.seq
 accepted:yx s.accepted
 name:s.bc.length≤1099511627776
theorem RI {s:bO} (h:∀c∈Ty.cells .state s,Small 1048576 c):RawA s := {
 header:=nV.1 (h (.int .i64 s.header) (by simp[Ty.cells])).fi
 dc:=nV.1 (h (.int .i64 s.dc) (by simp[Ty.cells])).fi
 order:=nV.1 (h (.int .i64 s.order) (by simp[Ty.cells])).fi
 update:=nV.1 (h (.int .i64 s.update) (by simp[Ty.cells])).fi
 node:=nV.1 (h (.int .i64 s.node) (by simp[Ty.cells])).fi
 seq:=nV.1 (h (.int .i64 s.seq) (by simp[Ty.cells])).fi
 accepted:=nV.1 (h (.int .i64 s.accepted) (by simp[Ty.cells])).fi
 name:=by have:=(h (.str s.bc) (by simp[Ty.cells])).gL; omega }
theorem C0 {R:Type} (c n:Int) (hc:yx c) (h0:0<n) (k:Int→Option R):bJ c n k=k (l8 c n):=pick_rawI c n hc h0 k
theorem fit09 {R:Type} (s:bO) (hs:RawA s) (k:bO→Option R):cb s k=k (WB s):=by
 unfold cb QV
 have p0:=Iu s.seq 500000001
 have p1:=Iv s.seq (n:=500000001) (by decide)
 have w:IntKind.i64.wrap (2*l8 s.seq 500000001)=2*l8 s.seq 500000001:=cL (by omega) (by omega)
 rw[C0 _ _ hs.header (by omega),C0 _ _ hs.dc (by omega),fit07 _ hs.name,C0 _ _ hs.order (by omega),C0 _ _ hs.update (by omega)]
 have e:WB s=⟨l8 s.header 1000000001,l8 s.dc 1000000001,X5 s.bc,l8 s.order 1000000001,l8 s.update 1000000001,s.live||s.bz,l8 s.node 1000000001,2*l8 s.seq 500000001,s.bz,l8 s.accepted 1000000001⟩:=rfl
 rw[e]
 cases s.live with
 | true =>
  rw[cond_true,C0 _ _ hs.node (by omega),C0 _ _ hs.seq (by omega),C0 _ _ hs.accepted (by omega),w]
  rfl
 | false =>
  rw[cond_false,C0 _ _ hs.node (by omega),C0 _ _ hs.seq (by omega),C0 _ _ hs.accepted (by omega),w]
  rfl
end Go.Proofs.YtidfokedcnhahaaGreatDoor
/-
 Functions of the program as pure Lean functions, and the ties; printed by wip/tools/emit.py.
-/
set_option maxRecDepth 100000
namespace Go.Proofs.YtidfokedcnhahaaGreatDoor
open Go Go.aq
variable {R:Type}
/-! ### humpyard/humpyardlaw09.StateBack -/
abbrev AN (R:Type):Type:=aq.State→(Bool→Option R)→Option R
abbrev wj:List cY := [.agg [.int .i64, .int .i64, .str, .int .i64, .int .i64, .bool, .int .i64, .int .i64, .bool, .int .i64]]
abbrev wk:List aY := []
def AO (fn:AN R):jU R wj wk:=fun x y k=>fn (⟨x.1.1,x.1.2.1,x.1.2.2.1,x.1.2.2.2.1,x.1.2.2.2.2.1,x.1.2.2.2.2.2.1,x.1.2.2.2.2.2.2.1,x.1.2.2.2.2.2.2.2.1,(t8 x.1).1,(t8 x.1).2.1⟩:aq.State) (fun q0=>k (.bool q0) [])
def Vy (fn:AN R):=aC wj wk (AO fn)
section
variable (cb:qA R) (aX:k8 R) (bl:n0 R) (aE:fL R) (br:oo R)
def JY:List (lC R) := [(38,true,(Bk cb av)),(37,true,(rB aX av)),(39,true,(w9 bl av)),(41,true,(rh aE av)),(46,true,(xD br av))]
def C1 (x1:aq.State) (k0:Bool→Option R):Option R :=
 aX (fun y2=>cb x1 (fun y3=>bl y3 (fun y4 y5=>br y4 (fun y6 y7=>bif y2 then (aE y3 (fun y8=>bif y8 then (bif (y5==0)then (bif (y7==0)then (k0 (y6.header==y3.header&&(y6.dc==y3.dc&&(y6.bc==y3.bc&&(y6.order==y3.order&&(y6.update==y3.update&&(y6.live==y3.live&&(y6.node==y3.node&&(y6.seq==y3.seq&&(y6.bz==y3.bz&&(y6.accepted==y3.accepted&&true)))))))))))else (k0 false))else (k0 false))else (k0 false)))else (k0 false)))))
theorem TR:dD (R:=R) tt (JY cb aX bl aE br) nK false Tryz.f11 wj wk (AO (C1 cb aX bl aE br)):=fun x y k=>by kernel_rfl
end
theorem Sa:cr (R:=R) Tryz.prog (JY (R:=R) cb aX bl aE br) := .c (xe R) <| .c (oB R) <| .c (sW R) <| .c (oy R) <| .c (uJ R) <| .n
def uM:AN R:=fun x1 k0=>C1 cb aX bl aE br x1 k0
theorem QW (R:Type):jT Tryz.prog 11 (Vy (uM (R:=R))):=bj TT mixed (Sa (R:=R)) rfl rfl rfl rfl bX (TR cb aX bl aE br)
/-! ### humpyard/humpyardlaw09.StateTaken -/
abbrev za (R:Type):Type:=ag→aq.State→Int→ag→(Bool→Option R)→Option R
abbrev tW:List cY := [.leaf (.str), .agg [.int .i64, .int .i64, .str, .int .i64, .int .i64, .bool, .int .i64, .int .i64, .bool, .int .i64], .leaf (.int .i64), .leaf (.str)]
abbrev tX:List aY := []
def zc (fn:za R):jU R tW tX:=fun x y k=>fn x.1 (⟨x.2.1.1,x.2.1.2.1,x.2.1.2.2.1,x.2.1.2.2.2.1,x.2.1.2.2.2.2.1,x.2.1.2.2.2.2.2.1,x.2.1.2.2.2.2.2.2.1,x.2.1.2.2.2.2.2.2.2.1,(t8 x.2.1).1,(t8 x.2.1).2.1⟩:aq.State) x.2.2.1 x.2.2.2.1 (fun q0=>k (.bool q0) [])
def TS (fn:za R):=aC tW tX (zc fn)
abbrev s5 (R:Type):Type:=Nat→(List ag)→Int→Int→(Option R)→(Bool→Option R)→Option R
def n7:Hint := { live := [68,69,70],own := [],rows := [],cells := [],drop := [],out := [8] }
abbrev jd:Type:=(List ag)×Int×Int
def rD:jd→St:=fun d=>⟨U 68 (.sl .str d.1 (.own 0) :: .int .i64 d.2.1 :: .int .i64 d.2.2::U 40 ([])), [.tok]⟩
def s6 (K:Ex→St→Option R):Option R:=K (.exit 0) ⟨U 111 ([]), []⟩
def s7 (K:Ex→St→Option R) (q0:Bool):Option R:=K (.ret) ⟨U 8 (.bool q0::U 102 ([])), []⟩
abbrev k9:List cY:=PU 68 (.leaf (.Yn .str 0) :: .leaf (.int .i64) :: .leaf (.int .i64)::PU 40 ([]))
abbrev lg:List aY := [.tok]
def C2 (x:cY.cD k9) (y:aY.cD lg):Nat:=(List.length ((t8 (t8 (t8 (t8 (t8 (t8 (t8 (t8 x)))))))).2.2.2.2.1)+Int.natAbs ((t8 (t8 (t8 (t8 (t8 (t8 (t8 (t8 x)))))))).2.2.2.2.2.1)+Int.natAbs ((t8 (t8 (t8 (t8 (t8 (t8 (t8 (t8 x)))))))).2.2.2.2.2.2.1)+64)
def N8 (x:cY.cD k9) (y:aY.cD lg):jd:=((t8 (t8 (t8 (t8 (t8 (t8 (t8 (t8 x)))))))).2.2.2.2.1,(t8 (t8 (t8 (t8 (t8 (t8 (t8 (t8 x)))))))).2.2.2.2.2.1,(t8 (t8 (t8 (t8 (t8 (t8 (t8 (t8 x)))))))).2.2.2.2.2.2.1)
def Bl (L:s5 R):Ed R k9 lg:=fun x y K=>L (C2 x y) ((t8 (t8 (t8 (t8 (t8 (t8 (t8 (t8 x)))))))).2.2.2.2.1) ((t8 (t8 (t8 (t8 (t8 (t8 (t8 (t8 x)))))))).2.2.2.2.2.1) ((t8 (t8 (t8 (t8 (t8 (t8 (t8 (t8 x)))))))).2.2.2.2.2.2.1) (s6 K) (s7 K)
section
variable (cb:qA R) (aX:k8 R) (bJ:rC R) (bQ:nY R) (bl:n0 R) (aE:fL R) (br:oo R) (cf:s5 R)
def lZ:List (lC R) := [(38,true,(Bk cb av)),(37,true,(rB aX av)),(45,true,(CZ bJ av)),(28,true,(A9 bQ av)),(39,true,(w9 bl av)),(41,true,(rh aE av)),(46,true,(xD br av))]
def n8 (fc:(List ag)→Int→Int→Option R) (VZ:List ag) (XA:Int) (oa:Int) (e0:Option R) (e1:Bool→Option R):Option R :=
 bif (decide (oa<XA))then (cw (decide ((0:Int)≤oa)&&decide (oa<VZ.length)) (br (VZ.getD oa.toNat (Ty.bR .str)) (fun Ar K2=>bif (K2 != 0)then (bif (!(Ar.header==0&&(Ar.dc==0&&(Ar.bc==([]:ag)&&(Ar.order==0&&(Ar.update==0&&(Ar.live==false&&(Ar.node==0&&(Ar.seq==0&&(Ar.bz==false&&(Ar.accepted==0&&true)))))))))))then (e1 false)else (fc VZ XA (IntKind.i64.wrap (oa+1))))else (bl Ar (fun J9 Pz=>br J9 (fun Li C6=>aE Ar (fun Yr=>bif (!Yr)then (e1 false)else (bif (Pz != 0)then (e1 false)else (bif (C6 != 0)then (e1 false)else (bif (!(Li.header==Ar.header&&(Li.dc==Ar.dc&&(Li.bc==Ar.bc&&(Li.order==Ar.order&&(Li.update==Ar.update&&(Li.live==Ar.live&&(Li.node==Ar.node&&(Li.seq==Ar.seq&&(Li.bz==Ar.bz&&(Li.accepted==Ar.accepted&&true)))))))))))then (e1 false)else (fc VZ XA (IntKind.i64.wrap (oa+1)))))))))))))else (e0)
def C3 (K:Ex→St→Option R) (rc:jd→Option R) (d:jd):Option R:=n8 bl aE br (fun z0 z1 z2=>rc (z0,z1,z2)) d.1 d.2.1 d.2.2 (s6 K) (s7 K)
def oY:Nat→Option (Hint×dE R):=fun i=>match i with
 | 8=>some (n7,(dR k9 lg (Bl cf) lM))
 | _=>none
theorem Jh (K:Ex→St→Option R) (rc:St→Option R) (d:jd):roundOf tt (dy (lZ cb aX bJ bQ bl aE br)) (oY cf) 0 ((aN (bm Tryz.f12)).getD 0 .skip) n7 (rD d) rc K=C3 bl aE br K (fun d=>rc (rD d)) d:=by kernel_rfl
def AP (x1:ag) (x2:aq.State) (x3:Int) (x4:ag) (k0:Bool→Option R):Option R :=
 aX (fun y5=>cb x2 (fun y6=>bl y6 (fun y7 y8=>bif (!y5)then (k0 false)else (bif (y8 != 0)then (k0 false)else (bif (decide ((y7.length:Int)<(9:Int)))then (k0 false)else (cw (decide ((0:Int)≤(IntKind.i64.wrap ((y7.length:Int) - 9)))&&decide ((IntKind.i64.wrap ((y7.length:Int) - 9))≤y7.length)) (cw (decide ((0:Int)≤(IntKind.i64.wrap ((y7.length:Int) - 9)))) (bJ x3 (IntKind.i64.wrap ((((y7.drop 0).take ((IntKind.i64.wrap ((y7.length:Int) - 9)).toNat - 0)).length:Int)+1)) (fun od=>bQ x1 (fun ug=>cw (decide ((0:Int)≤od)&&decide (od≤((y7.drop 0).take ((IntKind.i64.wrap ((y7.length:Int) - 9)).toNat - 0)).length)) (cw (decide ((0:Int)≤od)) (cw (decide (((((y7.drop 0).take ((IntKind.i64.wrap ((y7.length:Int) - 9)).toNat - 0)).drop 0).take (od.toNat - 0)).length+x4.length≤9223372036854775807)) (cw (decide ((0:Int)≤(((y7.drop 0).take ((IntKind.i64.wrap ((y7.length:Int) - 9)).toNat - 0)).length:Int))&&decide ((((y7.drop 0).take ((IntKind.i64.wrap ((y7.length:Int) - 9)).toNat - 0)).length:Int)≤((y7.drop 0).take ((IntKind.i64.wrap ((y7.length:Int) - 9)).toNat - 0)).length)) (cw (decide ((0:Int)≤(min (IntKind.i64.wrap (od+(x4.length:Int))) (((y7.drop 0).take ((IntKind.i64.wrap ((y7.length:Int) - 9)).toNat - 0)).length:Int)))&&decide ((min (IntKind.i64.wrap (od+(x4.length:Int))) (((y7.drop 0).take ((IntKind.i64.wrap ((y7.length:Int) - 9)).toNat - 0)).length:Int))≤(((y7.drop 0).take ((IntKind.i64.wrap ((y7.length:Int) - 9)).toNat - 0)).length:Int))) (cw (decide ((((((y7.drop 0).take ((IntKind.i64.wrap ((y7.length:Int) - 9)).toNat - 0)).drop 0).take (od.toNat - 0))++x4).length+((((y7.drop 0).take ((IntKind.i64.wrap ((y7.length:Int) - 9)).toNat - 0)).drop (min (IntKind.i64.wrap (od+(x4.length:Int))) (((y7.drop 0).take ((IntKind.i64.wrap ((y7.length:Int) - 9)).toNat - 0)).length:Int)).toNat).take ((((y7.drop 0).take ((IntKind.i64.wrap ((y7.length:Int) - 9)).toNat - 0)).length:Int).toNat - (min (IntKind.i64.wrap (od+(x4.length:Int))) (((y7.drop 0).take ((IntKind.i64.wrap ((y7.length:Int) - 9)).toNat - 0)).length:Int)).toNat)).length≤9223372036854775807)) (bQ ((((((y7.drop 0).take ((IntKind.i64.wrap ((y7.length:Int) - 9)).toNat - 0)).drop 0).take (od.toNat - 0))++x4)++((((y7.drop 0).take ((IntKind.i64.wrap ((y7.length:Int) - 9)).toNat - 0)).drop (min (IntKind.i64.wrap (od+(x4.length:Int))) (((y7.drop 0).take ((IntKind.i64.wrap ((y7.length:Int) - 9)).toNat - 0)).length:Int)).toNat).take ((((y7.drop 0).take ((IntKind.i64.wrap ((y7.length:Int) - 9)).toNat - 0)).length:Int).toNat - (min (IntKind.i64.wrap (od+(x4.length:Int))) (((y7.drop 0).take ((IntKind.i64.wrap ((y7.length:Int) - 9)).toNat - 0)).length:Int)).toNat))) (fun zj=>cf (List.length ([ug,zj]:List ag)+Int.natAbs 2+Int.natAbs 0+64) ([ug,zj]:List ag) 2 0 (k0 true) (fun y24=>k0 y24))))))))))))))))))
theorem Sb:dD (R:=R) tt (lZ cb aX bJ bQ bl aE br) (oY cf) false Tryz.f12 tW tX (zc (AP cb aX bJ bQ bl cf)):=fun x y k=>by kernel_rfl
end
theorem QX:cr (R:=R) Tryz.prog (lZ (R:=R) cb aX bJ bQ bl aE br) := .c (xe R) <| .c (oB R) <| .c (Ah R) <| .c (w8 R) <| .c (sW R) <| .c (oy R) <| .c (uJ R) <| .n
def cf:s5 R
 | 0,_,_,_,_,_=>none
 | n+1,jf,jj,jr,e0,e1=>n8 bl aE br (fun jf jj jr=>cf n jf jj jr e0 e1) jf jj jr e0 e1
def C4 (K:Ex→St→Option R) (n:Nat) (d:jd):Option R:=cf n d.1 d.2.1 d.2.2 (s6 K) (s7 K)
theorem Me (other:dE R) (ho:ki tt (dy (lZ (R:=R) cb aX bJ bQ bl aE br)) (oY (R:=R) cf) 0 ((aN (bm Tryz.f12)).getD 0 .skip) n7 other):ki tt (dy (lZ (R:=R) cb aX bJ bQ bl aE br)) (oY (R:=R) cf) 0 ((aN (bm Tryz.f12)).getD 0 .skip) n7 (dR k9 lg (Bl (cf)) other) :=
 ei (A:=C4) ho (gd rD (C3 bl aE br) (C4) (fun _ _=>by kernel_rfl) (Jh cb aX bJ bQ bl aE br cf) (fun _ _ _=>by kernel_rfl)) C2 N8 (fun _ _=>by kernel_rfl) (fun _ _ _=>by kernel_rfl)
def s8:za R:=fun x1 x2 x3 x4 k0=>AP cb aX bJ bQ bl cf x1 x2 x3 x4 k0
theorem N9 (R:Type):∀a∈aN (bm Tryz.f12),ji tt (dy (lZ (R:=R) cb aX bJ bQ bl aE br)) (oY (R:=R) cf) 0 a:=by
 refine gR 1 (by kernel_rfl) fun i hi => ?_
 match i,hi with
 | 0,_=>exact dH (by kernel_rfl) (Me _ fm)
 | n+1,hi=>omega
theorem O7 (R:Type):jT Tryz.prog 12 (TS (s8 (R:=R))):=bj TT mixed (QX (R:=R)) rfl rfl rfl rfl (N9 R) (Sb cb aX bJ bQ bl aE br cf)
/-! ### humpyard/humpyardlaw09.StateChanged -/
abbrev vK (R:Type):Type:=aq.State→Int→Int→(Bool→Option R)→Option R
abbrev qB:List cY := [.agg [.int .i64, .int .i64, .str, .int .i64, .int .i64, .bool, .int .i64, .int .i64, .bool, .int .i64], .leaf (.int .i64), .leaf (.int .u8)]
abbrev qC:List aY := []
def vL (fn:vK R):jU R qB qC:=fun x y k=>fn (⟨x.1.1,x.1.2.1,x.1.2.2.1,x.1.2.2.2.1,x.1.2.2.2.2.1,x.1.2.2.2.2.2.1,x.1.2.2.2.2.2.2.1,x.1.2.2.2.2.2.2.2.1,(t8 x.1).1,(t8 x.1).2.1⟩:aq.State) x.2.1 x.2.2.1 (fun q0=>k (.bool q0) [])
def QY (fn:vK R):=aC qB qC (vL fn)
section
variable (cb:qA R) (aX:k8 R) (bJ:rC R) (bl:n0 R) (br:oo R)
def FI:List (lC R) := [(38,true,(Bk cb av)),(37,true,(rB aX av)),(45,true,(CZ bJ av)),(39,true,(w9 bl av)),(46,true,(xD br av))]
def xf (x1:aq.State) (x2:Int) (x3:Int) (k0:Bool→Option R):Option R :=
 aX (fun y4=>cb x1 (fun y5=>bl y5 (fun y6 y7=>bif (!y4)then (k0 false)else (bif (y7 != 0)then (k0 false)else (bif (y6==([]:ag))then (k0 false)else (bJ x2 (y6.length:Int) (fun y9=>cw (decide ((0:Int)≤y9)&&decide (y9<y6.length)) (cw (decide (y9.toNat<(gS y6).length)) (cw (decide ((0:Int)≤y9)&&decide (y9<y6.length)) (cw (decide (y9.toNat<(gS y6).length)) (br (List.map (fun n:Int=>UInt8.ofNat n.toNat) ((gS y6).set y9.toNat (IntKind.u8.wrap ((BitVec.ofInt IntKind.u8.bits ((gS y6).getD y9.toNat (Ty.bR (.int .u8))) ^^^ BitVec.ofInt IntKind.u8.bits (IntKind.u8.wrap (1+(Int.tmod x3 255)))).toNat:Int))):ag) (fun od ug=>cw (decide (y6.length+(List.map (fun n:Int=>UInt8.ofNat n.toNat) ([x3]:List Int):ag).length≤9223372036854775807)) (br (y6++(List.map (fun n:Int=>UInt8.ofNat n.toNat) ([x3]:List Int):ag)) (fun zj FW=>bif (ug==60)then (bif (FW==60)then (k0 (od.header==0&&(od.dc==0&&(od.bc==([]:ag)&&(od.order==0&&(od.update==0&&(od.live==false&&(od.node==0&&(od.seq==0&&(od.bz==false&&(od.accepted==0&&true)))))))))))else (k0 false))else (k0 false)))))))))))))))
theorem O8:dD (R:=R) tt (FI cb aX bJ bl br) nK false Tryz.f13 qB qC (vL (xf cb aX bJ bl br)):=fun x y k=>by kernel_rfl
end
theorem Oa:cr (R:=R) Tryz.prog (FI (R:=R) cb aX bJ bl br) := .c (xe R) <| .c (oB R) <| .c (Ah R) <| .c (sW R) <| .c (uJ R) <| .n
def oZ:vK R:=fun x1 x2 x3 k0=>xf cb aX bJ bl br x1 x2 x3 k0
theorem Mf (R:Type):jT Tryz.prog 13 (QY (oZ (R:=R))):=bj TT mixed (Oa (R:=R)) rfl rfl rfl rfl bX (O8 cb aX bJ bl br)
/-! ### humpyard/humpyardlaw09.StateNewer -/
abbrev zd (R:Type):Type:=aq.State→aq.State→aq.State→(Bool→Option R)→Option R
abbrev tY:List cY := [.agg [.int .i64, .int .i64, .str, .int .i64, .int .i64, .bool, .int .i64, .int .i64, .bool, .int .i64], .agg [.int .i64, .int .i64, .str, .int .i64, .int .i64, .bool, .int .i64, .int .i64, .bool, .int .i64], .agg [.int .i64, .int .i64, .str, .int .i64, .int .i64, .bool, .int .i64, .int .i64, .bool, .int .i64]]
abbrev tZ:List aY := []
def ze (fn:zd R):jU R tY tZ:=fun x y k=>fn (⟨x.1.1,x.1.2.1,x.1.2.2.1,x.1.2.2.2.1,x.1.2.2.2.2.1,x.1.2.2.2.2.2.1,x.1.2.2.2.2.2.2.1,x.1.2.2.2.2.2.2.2.1,(t8 x.1).1,(t8 x.1).2.1⟩:aq.State) (⟨x.2.1.1,x.2.1.2.1,x.2.1.2.2.1,x.2.1.2.2.2.1,x.2.1.2.2.2.2.1,x.2.1.2.2.2.2.2.1,x.2.1.2.2.2.2.2.2.1,x.2.1.2.2.2.2.2.2.2.1,(t8 x.2.1).1,(t8 x.2.1).2.1⟩:aq.State) (⟨x.2.2.1.1,x.2.2.1.2.1,x.2.2.1.2.2.1,x.2.2.1.2.2.2.1,x.2.2.1.2.2.2.2.1,x.2.2.1.2.2.2.2.2.1,x.2.2.1.2.2.2.2.2.2.1,x.2.2.1.2.2.2.2.2.2.2.1,(t8 x.2.2.1).1,(t8 x.2.2.1).2.1⟩:aq.State) (fun q0=>k (.bool q0) [])
def TU (fn:zd R):=aC tY tZ (ze fn)
section
variable (aX:k8 R) (cX:xd R)
def Ix:List (lC R) := [(37,true,(rB aX av)),(43,true,(KT cX av))]
def AQ (x1:aq.State) (x2:aq.State) (x3:aq.State) (k0:Bool→Option R):Option R :=
 aX (fun y4=>cX x1 x2 (fun y5=>cX x2 x1 (fun y6=>let j25:=fun (z7:Bool)=>bif (!y4)then (k0 false)else (cX x1 x1 (fun y8=>bif y8 then (k0 false)else (bif z7 then (bif y5 then (k0 false)else (bif y6 then (k0 false)else (bif (!z7)then (bif (y5==y6)then (k0 false)else (bif (!y5)then (k0 true)else (cX x2 x3 (fun FW=>bif (!FW)then (k0 true)else (cX x1 x3 (fun Gm=>k0 Gm))))))else (bif (!y5)then (k0 true)else (cX x2 x3 (fun Ar=>bif (!Ar)then (k0 true)else (cX x1 x3 (fun K2=>k0 K2))))))))else (bif (!z7)then (bif (y5==y6)then (k0 false)else (bif (!y5)then (k0 true)else (cX x2 x3 (fun Pz=>bif (!Pz)then (k0 true)else (cX x1 x3 (fun Li=>k0 Li))))))else (bif (!y5)then (k0 true)else (cX x2 x3 (fun Yr=>bif (!Yr)then (k0 true)else (cX x1 x3 (fun Sn=>k0 Sn))))))))); bif (x1.dc==x2.dc)then (j25 (x1.header==x2.header))else (j25 false))))
theorem Sc:dD (R:=R) tt (Ix aX cX) nK false Tryz.f14 tY tZ (ze (AQ aX cX)):=fun x y k=>by kernel_rfl
end
theorem QZ:cr (R:=R) Tryz.prog (Ix (R:=R) aX cX) := .c (oB R) <| .c (Mc R) <| .n
def s9:zd R:=fun x1 x2 x3 k0=>AQ aX cX x1 x2 x3 k0
theorem O9 (R:Type):jT Tryz.prog 14 (TU (s9 (R:=R))):=bj TT mixed (QZ (R:=R)) rfl rfl rfl rfl bX (Sc aX cX)
/-! ### humpyard/humpyardlaw09.StateForms -/
abbrev zf (R:Type):Type:=aq.State→Int→ag→(Bool→Option R)→Option R
abbrev ua:List cY := [.agg [.int .i64, .int .i64, .str, .int .i64, .int .i64, .bool, .int .i64, .int .i64, .bool, .int .i64], .leaf (.int .i64), .leaf (.str)]
abbrev ub:List aY := []
def zg (fn:zf R):jU R ua ub:=fun x y k=>fn (⟨x.1.1,x.1.2.1,x.1.2.2.1,x.1.2.2.2.1,x.1.2.2.2.2.1,x.1.2.2.2.2.2.1,x.1.2.2.2.2.2.2.1,x.1.2.2.2.2.2.2.2.1,(t8 x.1).1,(t8 x.1).2.1⟩:aq.State) x.2.1 x.2.2.1 (fun q0=>k (.bool q0) [])
def TV (fn:zf R):=aC ua ub (zg fn)
abbrev rE (R:Type):Type:=Nat→Int→(List ag)→(List Json)→Int→aq.State→Json→(Int→(List ag)→(List Json)→aq.State→Json→Option R)→Option R
def mU:Hint := { live := [1,8,13,16,17,18],own := [],rows := [],cells := [],drop := [],out := [1,6,8,13,16,17] }
abbrev iB:Type:=Int×(List ag)×(List Json)×Int×aq.State×Json
def pH:iB→St:=fun d=>⟨.undef :: .int .i64 d.1::U 6 (.ptr 0 0::U 4 (.ptr 1 0::U 2 (.sl .str d.2.1 (.own 2) :: .sl .json d.2.2.1 (.own 3) :: .int .i64 d.2.2.2.1::U 150 ([])))), [.cells [.int .i64 d.2.2.2.2.1.header, .int .i64 d.2.2.2.2.1.dc, .str d.2.2.2.2.1.bc, .int .i64 d.2.2.2.2.1.order, .int .i64 d.2.2.2.2.1.update, .bool d.2.2.2.2.1.live, .int .i64 d.2.2.2.2.1.node, .int .i64 d.2.2.2.2.1.seq, .bool d.2.2.2.2.1.bz, .int .i64 d.2.2.2.2.1.accepted], .cells [.int .i64 d.2.2.2.2.2.kind, .int .i64 d.2.2.2.2.2.num.ao, .int .i64 d.2.2.2.2.2.num.exp, .str d.2.2.2.2.2.text, .sl .str d.2.2.2.2.2.names .no, .sl .json d.2.2.2.2.2.items .no], .tok, .tok]⟩
def rF (K:Ex→St→Option R) (q0:Int) (q1:List ag) (q2:List Json) (q3:aq.State) (q4:Json):Option R:=K (.exit 0) ⟨.undef :: .int .i64 q0::U 6 (.ptr 0 0::U 4 (.ptr 1 0::U 2 (.sl .str q1 (.own 2) :: .sl .json q2 (.own 3)::U 151 ([])))), [.cells [.int .i64 q3.header, .int .i64 q3.dc, .str q3.bc, .int .i64 q3.order, .int .i64 q3.update, .bool q3.live, .int .i64 q3.node, .int .i64 q3.seq, .bool q3.bz, .int .i64 q3.accepted], .cells [.int .i64 q4.kind, .int .i64 q4.num.ao, .int .i64 q4.num.exp, .str q4.text, .sl .str q4.names .no, .sl .json q4.items .no], .tok, .tok]⟩
abbrev j9:List cY := .leaf (.undef) :: .leaf (.int .i64)::PU 6 (.leaf (.ptr 0 0)::PU 4 (.leaf (.ptr 1 0)::PU 2 (.leaf (.Yn .str 2) :: .leaf (.Yn .json 3) :: .leaf (.int .i64)::PU 150 ([]))))
abbrev ka:List aY := [.cells [.int .i64, .int .i64, .str, .int .i64, .int .i64, .bool, .int .i64, .int .i64, .bool, .int .i64], .cells [.int .i64, .int .i64, .int .i64, .str, .sl .str, .sl .json], .tok, .tok]
def Bm (x:cY.cD j9) (y:aY.cD ka):Nat:=(Int.natAbs x.2.1+List.length ((t8 (t8 x)).1)+List.length ((t8 (t8 x)).2.1)+Int.natAbs ((t8 (t8 x)).2.2.1)+aq.State.fu (⟨y.1.1,y.1.2.1,y.1.2.2.1,y.1.2.2.2.1,y.1.2.2.2.2.1,y.1.2.2.2.2.2.1,y.1.2.2.2.2.2.2.1,y.1.2.2.2.2.2.2.2.1,(t8 y.1).1,(t8 y.1).2.1⟩:aq.State)+Json.fu (⟨y.2.1.1,⟨y.2.1.2.1,y.2.1.2.2.1⟩,y.2.1.2.2.2.1,y.2.1.2.2.2.2.1,y.2.1.2.2.2.2.2.1⟩:Json)+64)
def Mg (x:cY.cD j9) (y:aY.cD ka):iB:=(x.2.1,(t8 (t8 x)).1,(t8 (t8 x)).2.1,(t8 (t8 x)).2.2.1,(⟨y.1.1,y.1.2.1,y.1.2.2.1,y.1.2.2.2.1,y.1.2.2.2.2.1,y.1.2.2.2.2.2.1,y.1.2.2.2.2.2.2.1,y.1.2.2.2.2.2.2.2.1,(t8 y.1).1,(t8 y.1).2.1⟩:aq.State),(⟨y.2.1.1,⟨y.2.1.2.1,y.2.1.2.2.1⟩,y.2.1.2.2.2.1,y.2.1.2.2.2.2.1,y.2.1.2.2.2.2.2.1⟩:Json))
def Aa (L:rE R):Ed R j9 ka:=fun x y K=>L (Bm x y) x.2.1 ((t8 (t8 x)).1) ((t8 (t8 x)).2.1) ((t8 (t8 x)).2.2.1) (⟨y.1.1,y.1.2.1,y.1.2.2.1,y.1.2.2.2.1,y.1.2.2.2.2.1,y.1.2.2.2.2.2.1,y.1.2.2.2.2.2.2.1,y.1.2.2.2.2.2.2.2.1,(t8 y.1).1,(t8 y.1).2.1⟩:aq.State) (⟨y.2.1.1,⟨y.2.1.2.1,y.2.1.2.2.1⟩,y.2.1.2.2.2.1,y.2.1.2.2.2.2.1,y.2.1.2.2.2.2.2.1⟩:Json) (rF K)
section
variable (bf:kr R) (dK:uQ R) (gb:Ct R) (cb:qA R) (aX:k8 R) (bJ:rC R) (cI:mi R) (dM:uW R) (db:nZ R) (bQ:nY R) (bl:n0 R) (aE:fL R) (br:oo R) (bW:rE R)
def l0:List (lC R) := [(48,true,(pX bf av)),(36,true,(MK dK av)),(33,true,(Qs gb av)),(38,true,(Bk cb av)),(37,true,(rB aX av)),(45,true,(CZ bJ av)),(32,true,(M0 cI av)),(35,true,(Nt dM av)),(31,true,(Qo db av)),(28,true,(A9 bQ av)),(39,true,(w9 bl av)),(41,true,(rh aE av)),(46,true,(xD br av))]
def mV (fc:Int→(List ag)→(List Json)→Int→aq.State→Json→Option R) (uR:Int) (mm:List ag) (wx:List Json) (Dq:Int) (Gr:aq.State) (Sx:Json) (e0:Int→(List ag)→(List Json)→aq.State→Json→Option R):Option R :=
 bif (decide (Dq≥(0:Int)))then (cw (decide ((0:Int)≤Dq)&&decide (Dq<Sx.names.length)) (cw (decide ((mm.length+1)*16≤140737488355328)) (cw (decide ((0:Int)≤Dq)&&decide (Dq<Sx.items.length)) (cw (decide ((wx.length+1)*88≤140737488355328)) (fc uR (mm++([(Sx.names.getD Dq.toNat (Ty.bR .str))]:List ag)) (wx++([(⟨(Sx.items.getD Dq.toNat (Ty.bR .json)).kind,⟨(Sx.items.getD Dq.toNat (Ty.bR .json)).num.ao,(Sx.items.getD Dq.toNat (Ty.bR .json)).num.exp⟩,(Sx.items.getD Dq.toNat (Ty.bR .json)).text,(Sx.items.getD Dq.toNat (Ty.bR .json)).names,(Sx.items.getD Dq.toNat (Ty.bR .json)).items⟩:Json)]:List Json)) (IntKind.i64.wrap (Dq - 1)) Gr (⟨Sx.kind,⟨Sx.num.ao,Sx.num.exp⟩,Sx.text,Sx.names,Sx.items⟩:Json))))))else (e0 uR mm wx Gr (⟨Sx.kind,⟨Sx.num.ao,Sx.num.exp⟩,Sx.text,Sx.names,Sx.items⟩:Json))
def Bn (K:Ex→St→Option R) (rc:iB→Option R) (d:iB):Option R:=mV (fun z0 z1 z2 z3 z4 z5=>rc (z0,z1,z2,z3,z4,z5)) d.1 d.2.1 d.2.2.1 d.2.2.2.1 d.2.2.2.2.1 d.2.2.2.2.2 (rF K)
def o0:Nat→Option (Hint×dE R):=fun i=>match i with
 | 11=>some (mU,(dR j9 ka (Aa bW) lM))
 | _=>none
theorem Iy (K:Ex→St→Option R) (rc:St→Option R) (d:iB):roundOf tt (dy (l0 bf dK gb cb aX bJ cI dM db bQ bl aE br)) (o0 bW) 0 ((aN (bm Tryz.f15)).getD 0 .skip) mU (pH d) rc K=Bn K (fun d=>rc (pH d)) d:=by kernel_rfl
def AR (x1:aq.State) (x2:Int) (x3:ag) (k0:Bool→Option R):Option R :=
 aX (fun y4=>cb x1 (fun y5=>bl y5 (fun y6 y7=>db y6 (fun y8 y9=>cI y8 (fun od ug zj=>bif (!y4)then (k0 false)else (bif (y7 != 0)then (k0 false)else (bif (y9 != 0)then (k0 false)else (bif (ug != 0)then (k0 false)else (bif ((od.names.length:Int) != 10)then (k0 false)else (bif ((od.items.length:Int) != 10)then (k0 false)else (gb x3 (fun Gm=>cw (decide (1+Gm.length≤9223372036854775807)) (bf 1 (fun Ej=>bW (Int.natAbs x2+List.length ([(([120]:ag)++Gm)]:List ag)+List.length ([(⟨Ej.kind,⟨Ej.num.ao,Ej.num.exp⟩,Ej.text,Ej.names,Ej.items⟩:Json)]:List Json)+Int.natAbs 9+aq.State.fu y5+Json.fu (⟨od.kind,⟨od.num.ao,od.num.exp⟩,od.text,od.names,od.items⟩:Json)+64) x2 ([(([120]:ag)++Gm)]:List ag) ([(⟨Ej.kind,⟨Ej.num.ao,Ej.num.exp⟩,Ej.text,Ej.names,Ej.items⟩:Json)]:List Json) 9 y5 (⟨od.kind,⟨od.num.ao,od.num.exp⟩,od.text,od.names,od.items⟩:Json) (fun Yr Sn y24 AY I1=>dK Sn y24 (fun FJ=>dM (⟨FJ.kind,⟨FJ.num.ao,FJ.num.exp⟩,FJ.text,FJ.names,FJ.items⟩:Json) (fun Pd=>bQ Pd (fun W4=>br W4 (fun OO XL=>bJ Yr 10 (fun HY=>cw (decide ((0:Int)≤HY)&&decide (HY≤I1.names.length)) (cw (decide ((0:Int)≤HY)) (cw (decide ((0+((I1.names.drop 0).take (HY.toNat - 0)).length)*16≤140737488355328)) (cw (decide ((0:Int)≤(IntKind.i64.wrap (HY+1)))&&decide ((IntKind.i64.wrap (HY+1))≤I1.names.length)) (cw (decide ((((I1.names.drop 0).take (HY.toNat - 0)).length+(I1.names.drop (IntKind.i64.wrap (HY+1)).toNat).length)*16≤140737488355328)) (cw (decide ((0:Int)≤HY)&&decide (HY≤I1.items.length)) (cw (decide ((0:Int)≤HY)) (cw (decide ((0+((I1.items.drop 0).take (HY.toNat - 0)).length)*88≤140737488355328)) (cw (decide ((0:Int)≤(IntKind.i64.wrap (HY+1)))&&decide ((IntKind.i64.wrap (HY+1))≤I1.items.length)) (cw (decide ((((I1.items.drop 0).take (HY.toNat - 0)).length+(I1.items.drop (IntKind.i64.wrap (HY+1)).toNat).length)*88≤140737488355328)) (dK (((I1.names.drop 0).take (HY.toNat - 0))++(I1.names.drop (IntKind.i64.wrap (HY+1)).toNat)) (((I1.items.drop 0).take (HY.toNat - 0))++(I1.items.drop (IntKind.i64.wrap (HY+1)).toNat)) (fun y33=>dM (⟨y33.kind,⟨y33.num.ao,y33.num.exp⟩,y33.text,y33.names,y33.items⟩:Json) (fun y34=>bQ y34 (fun y35=>br y35 (fun y36 y37=>bJ Yr 1000 (fun y38=>bif (XL==0)then (bif (OO.header==AY.header&&(OO.dc==AY.dc&&(OO.bc==AY.bc&&(OO.order==AY.order&&(OO.update==AY.update&&(OO.live==AY.live&&(OO.node==AY.node&&(OO.seq==AY.seq&&(OO.bz==AY.bz&&(OO.accepted==AY.accepted&&true))))))))))then (bif (y37==90)then (aE (⟨AY.header,AY.dc,AY.bc,AY.order,AY.update,false,AY.node,AY.seq,true,AY.accepted⟩:aq.State) (fun ZE=>bif (!ZE)then (aE (⟨AY.header,AY.dc,AY.bc,AY.order,AY.update,AY.live,AY.node,(IntKind.i64.wrap ((IntKind.i64.wrap (2*y38))+1)),AY.bz,AY.accepted⟩:aq.State) (fun y40=>k0 (!y40)))else (k0 false)))else (k0 false))else (k0 false))else (k0 false))))))))))))))))))))))))))))))))))))
theorem Sd:dD (R:=R) tt (l0 bf dK gb cb aX bJ cI dM db bQ bl aE br) (o0 bW) false Tryz.f15 ua ub (zg (AR bf dK gb cb aX bJ cI dM db bQ bl aE br bW)):=fun x y k=>by kernel_rfl
end
theorem Q0:cr (R:=R) Tryz.prog (l0 (R:=R) bf dK gb cb aX bJ cI dM db bQ bl aE br) := .c (mv R) <| .c (Oh R) <| .c (Qu R) <| .c (xe R) <| .c (oB R) <| .c (Ah R) <| .c (Oo R) <| .c (Oy R) <| .c (Qp R) <| .c (w8 R) <| .c (sW R) <| .c (oy R) <| .c (uJ R) <| .n
def bW:rE R
 | 0,_,_,_,_,_,_,_=>none
 | n+1,jf,jj,jr,ur,Eg,FT,e0=>mV (fun jf jj jr ur Eg FT=>bW n jf jj jr ur Eg FT e0) jf jj jr ur Eg FT e0
def Bo (K:Ex→St→Option R) (n:Nat) (d:iB):Option R:=bW n d.1 d.2.1 d.2.2.1 d.2.2.2.1 d.2.2.2.2.1 d.2.2.2.2.2 (rF K)
theorem KY (other:dE R) (ho:ki tt (dy (l0 (R:=R) bf dK gb cb aX bJ cI dM db bQ bl aE br)) (o0 (R:=R) bW) 0 ((aN (bm Tryz.f15)).getD 0 .skip) mU other):ki tt (dy (l0 (R:=R) bf dK gb cb aX bJ cI dM db bQ bl aE br)) (o0 (R:=R) bW) 0 ((aN (bm Tryz.f15)).getD 0 .skip) mU (dR j9 ka (Aa (bW)) other) :=
 ei (A:=Bo) ho (gd pH (Bn) (Bo) (fun _ _=>by kernel_rfl) (Iy bf dK gb cb aX bJ cI dM db bQ bl aE br bW) (fun _ _ _=>by kernel_rfl)) Bm Mg (fun _ _=>by kernel_rfl) (fun _ _ _=>by kernel_rfl)
def ta:zf R:=fun x1 x2 x3 k0=>AR bf dK gb cb aX bJ cI dM db bQ bl aE br bW x1 x2 x3 k0
theorem Ob (R:Type):∀a∈aN (bm Tryz.f15),ji tt (dy (l0 (R:=R) bf dK gb cb aX bJ cI dM db bQ bl aE br)) (o0 (R:=R) bW) 0 a:=by
 refine gR 1 (by kernel_rfl) fun i hi => ?_
 match i,hi with
 | 0,_=>exact dH (by kernel_rfl) (KY _ fm)
 | n+1,hi=>omega
theorem Pa (R:Type):jT Tryz.prog 15 (TV (ta (R:=R))):=bj TT mixed (Q0 (R:=R)) rfl rfl rfl rfl (Ob R) (Sd bf dK gb cb aX bJ cI dM db bQ bl aE br bW)
end Go.Proofs.YtidfokedcnhahaaGreatDoor
/-
 Functions of the program as pure Lean functions, and the ties; printed by wip/tools/emit.py.
-/
set_option maxRecDepth 100000
namespace Go.Proofs.YtidfokedcnhahaaGreatDoor
open Go Go.aq
variable {R:Type}
/-! ### humpyard/humpyardlaw09.StateApart -/
abbrev zh (R:Type):Type:=aq.State→aq.State→(Bool→Option R)→Option R
abbrev uc:List cY := [.agg [.int .i64, .int .i64, .str, .int .i64, .int .i64, .bool, .int .i64, .int .i64, .bool, .int .i64], .agg [.int .i64, .int .i64, .str, .int .i64, .int .i64, .bool, .int .i64, .int .i64, .bool, .int .i64]]
abbrev uf:List aY := []
def zi (fn:zh R):jU R uc uf:=fun x y k=>fn (⟨x.1.1,x.1.2.1,x.1.2.2.1,x.1.2.2.2.1,x.1.2.2.2.2.1,x.1.2.2.2.2.2.1,x.1.2.2.2.2.2.2.1,x.1.2.2.2.2.2.2.2.1,(t8 x.1).1,(t8 x.1).2.1⟩:aq.State) (⟨x.2.1.1,x.2.1.2.1,x.2.1.2.2.1,x.2.1.2.2.2.1,x.2.1.2.2.2.2.1,x.2.1.2.2.2.2.2.1,x.2.1.2.2.2.2.2.2.1,x.2.1.2.2.2.2.2.2.2.1,(t8 x.2.1).1,(t8 x.2.1).2.1⟩:aq.State) (fun q0=>k (.bool q0) [])
def TW (fn:zh R):=aC uc uf (zi fn)
section
variable (cb:qA R) (aX:k8 R) (bl:n0 R)
def Iz:List (lC R) := [(38,true,(Bk cb av)),(37,true,(rB aX av)),(39,true,(w9 bl av))]
def AS (x1:aq.State) (x2:aq.State) (k0:Bool→Option R):Option R :=
 aX (fun y3=>cb x1 (fun y4=>cb x2 (fun y5=>bl y4 (fun y6 y7=>bl y5 (fun y8 y9=>bif y3 then (bif (y7==0)then (bif (y9==0)then (k0 ((y6==y8)==(y4.header==y5.header&&(y4.dc==y5.dc&&(y4.bc==y5.bc&&(y4.order==y5.order&&(y4.update==y5.update&&(y4.live==y5.live&&(y4.node==y5.node&&(y4.seq==y5.seq&&(y4.bz==y5.bz&&(y4.accepted==y5.accepted&&true))))))))))))else (k0 false))else (k0 false))else (k0 false))))))
theorem Se:dD (R:=R) tt (Iz cb aX bl) nK false Tryz.f16 uc uf (zi (AS cb aX bl)):=fun x y k=>by kernel_rfl
end
theorem Q1:cr (R:=R) Tryz.prog (Iz (R:=R) cb aX bl) := .c (xe R) <| .c (oB R) <| .c (sW R) <| .n
def td:zh R:=fun x1 x2 k0=>AS cb aX bl x1 x2 k0
theorem Pb (R:Type):jT Tryz.prog 16 (TW (td (R:=R))):=bj TT mixed (Q1 (R:=R)) rfl rfl rfl rfl bX (Se cb aX bl)
end Go.Proofs.YtidfokedcnhahaaGreatDoor
set_option maxRecDepth 100000
namespace Go.Proofs.YtidfokedcnhahaaGreatDoor
open Go Go.aq Go.Lib
def sameA (a b:bO):Bool:=(a.header==b.header&&(a.dc==b.dc&&(a.bc==b.bc&&(a.order==b.order&&(a.update==b.update&&(a.live==b.live&&(a.node==b.node&&(a.seq==b.seq&&(a.bz==b.bz&&(a.accepted==b.accepted&&true))))))))))
theorem sameA_iff {a b:bO}:sameA a b=true↔a=b:=by
 obtain ⟨a1,a2,a3,a4,a5,a6,a7,a8,a9,a10⟩:=a
 obtain ⟨b1,b2,b3,b4,b5,b6,b7,b8,b9,b10⟩:=b
 simp[sameA]
theorem TX (a:bO):sameA a a=true:=sameA_iff.2 rfl
theorem RJ (a b:bO):(a.header==b.header&&(a.dc==b.dc&&(a.bc==b.bc&&(a.order==b.order&&(a.update==b.update&&(a.live==b.live&&(a.node==b.node&&(a.seq==b.seq&&(a.bz==b.bz&&(a.accepted==b.accepted&&true))))))))))=sameA a b:=rfl
theorem RL {s:bO} (h:jS s=true):(ew (cE (eH s))).length≤20009:=by
 have:=HD (Bj h)
 rw[lY]
 omega
theorem Q2 {R:Type} {s:bO} (h:jS s=true) (k:ag→Int→Option R):bl s k=k (ew (cE (eH s))) 0:=by
 rw[layA_ok s,h,if_pos rfl]
theorem takeA_r {R:Type} {s:bO} (h:jS s=true) (k:bO→Int→Option R):br (ew (cE (eH s))) k=k s 0:=by
 rw[Md _ (by have:=RL h; omega),WA h,outA_ok]
theorem aaO {R:Type} {s:bO} (h:jS s=true) (k:Bool→Option R):aE s k=k true:=by rw[FH,h]
def exA:bO:=⟨1,2, [118],3,4,true,5,6,true,7⟩
theorem WC:jS exA=true:=by decide +kernel
theorem aaP:cE (eH exA) = [123,34,104,101,97,100,101,114,73,100,34,58,49,44,34,98,111,111,116,34,58,50,44,34,115,101,114,105,97,108,78,117,109,98,101,114,34,58,34,118,34,44,34,111,114,100,101,114,73,100,34,58,51,44,34,111,114,100,101,114,85,112,100,97,116,101,73,100,34,58,52,44,34,108,105,118,101,34,58,116,114,117,101,44,34,108,97,115,116,78,111,100,101,73,100,34,58,53,44,34,108,97,115,116,78,111,100,101,83,101,113,117,101,110,99,101,73,100,34,58,54,44,34,100,114,105,118,105,110,103,34,58,116,114,117,101,44,34,97,99,99,101,112,116,101,100,34,58,55,125]:=by kernel_rfl
theorem RM {R:Type} (k:Bool→Option R):aX k=k true:=by
 unfold aX KX
 have h0:jS ⟨0,0, [],0,0,false,0,0,false,0⟩=false:=by decide +kernel
 have hx:(⟨1,2, [118],3,4,true,5,6,true,7⟩:bO)=exA:=rfl
 have b0:((0:Int)==0)=true:=rfl
 have b1:((1:Int)==1)=true:=rfl
 have hn:lA ⟨5,1, [],0,0,false,0,0,false,0⟩ ⟨0,2, [],0,0,false,0,0,false,0⟩=false:=by decide +kernel
 have he:(exA.header==1&&(exA.dc==2&&(exA.bc==([118]:ag)&&(exA.order==3&&(exA.update==4&&(exA.live==true&&(exA.node==5&&(exA.seq==6&&(exA.bz==true&&(exA.accepted==7&&true))))))))))=true:=by decide +kernel
 rw[hx,Q2 WC,takeA_r WC,layA_ok ⟨0,0, [],0,0,false,0,0,false,0⟩,h0,if_neg (by decide),b0,cond_true]
 rw[←aaP,N5 _ (by rw[aaP]; decide),beq_self_eq_true,cond_true,aQ (show (((ew (cE (eH exA))).length:Int)>100) by rw[lY,aaP]; decide),cond_true,cond_true,he,cond_true,b1,cond_true,Xt,hn,Bool.not_false,cond_true]
 exact aaO WC _
theorem aaQ {R:Type} (s:bO) (hs:∀c∈Ty.cells .state s,Small 1048576 c) (k:Bool→Option R):uM s k=k true:=by
 have hr:=ED s
 unfold uM C1
 have b0:((0:Int)==0)=true:=rfl
 rw[RM,fit09 s (RI hs),Q2 hr,takeA_r hr,cond_true,aaO hr,cond_true,b0,cond_true,cond_true,RJ,TX]
theorem X8 {R:Type} (a b:bO) (ha:∀c∈Ty.cells .state a,Small 1048576 c) (hb:∀c∈Ty.cells .state b,Small 1048576 c) (k:Bool→Option R):td a b k=k true:=by
 have hx:=ED a
 have hy:=ED b
 unfold td AS
 have b0:((0:Int)==0)=true:=rfl
 have hs:(ew (cE (eH (WB a)))==ew (cE (eH (WB b))))=sameA (WB a) (WB b):=by
  rw[Bool.eq_iff_iff,sameA_iff]
  constructor
  ·intro h; exact layA_inj hx hy (by simpa using h)
  ·intro h; rw[h]; simp
 have bb:∀x:Bool,(x==x)=true:=fun x=>by cases x <;> rfl
 rw[RM,fit09 a (RI ha),fit09 b (RI hb),Q2 hx,Q2 hy,cond_true,b0,cond_true,cond_true,RJ,hs,bb]
theorem Vz {R:Type} (s:bO) (at_ c:Int) (hs:∀c∈Ty.cells .state s,Small 1048576 c) (ha:Small 1048576 (.int .i64 at_)) (hc:Small 1048576 (.int .u8 c)) (k:Bool→Option R):oZ s at_ c k=k true:=by
 have hr:=ED s
 have hl:=RL hr
 have hl9:=lY (cE (eH (WB s)))
 unfold oZ xf
 have b0:((0:Int) != 0)=false:=rfl
 rw[RM,fit09 s (RI hs),Q2 hr,Bool.not_true,cond_false,b0,cond_false]
 generalize hT:cE (eH (WB s))=T at *
 have jA:(ew T==([]:ag))=false:=by
  have hq:ew T ≠ []:=fun e=>by rw[e]at hl9; simp at hl9
  simpa using hq
 rw[jA,cond_false,C0 _ _ (RH ha) (by omega)]
 have p1:=Iu at_ (ew T).length
 have p2:=Iv at_ (n:=((ew T).length:Int)) (by omega)
 obtain ⟨j,hj⟩:∃j:Nat,l8 at_ ((ew T).length:Int)=(j:Int):=⟨(l8 at_ ((ew T).length:Int)).toNat,by omega⟩
 rw[hj]at p1 p2 ⊢
 have hjl:j<(ew T).length:=by omega
 rw[ay (in_range hjl),ay (by rw[Int.toNat_natCast,Bi,Ey]; exact aQ hjl),ay (in_range hjl),ay (by rw[Int.toNat_natCast,Bi,Ey]; exact aQ hjl),Int.toNat_natCast,turned_text _ _ hjl _ hc.fi]
 have b6:((60:Int)==60)=true:=rfl
 rw[Md _ (by rw[List.length_set]; omega),aaK (turned_shut T j _ hjl),Vx,bstr_one,ay (by simp; omega),Md _ (by simp; omega),aaK (open_longer T _),Vx,b6,cond_true,cond_true]
 rfl
theorem X9 {R:Type} (a b c:bO) (k:Bool→Option R):s9 a b c k=k true:=by
 have hl:=newerA_law a b c
 unfold s9 AQ
 simp only[RM,Xt,Bool.not_true,cond_false]
 generalize lA a a=n1 at hl ⊢
 generalize lA a b=n2 at hl ⊢
 generalize lA b a=n3 at hl ⊢
 generalize lA b c=n4 at hl ⊢
 generalize lA a c=n5 at hl ⊢
 generalize (a.dc==b.dc)=e1 at hl ⊢
 generalize (a.header==b.header)=e2 at hl ⊢
 revert hl
 cases n1 <;> cases n2 <;> cases n3 <;> cases n4 <;> cases n5 <;> cases e1 <;> cases e2 <;> first|(intro hl; rfl)|(intro hl; cases hl)
theorem takeA_err {s:ag} {e:Int} (h:takeA s = .error e):e≠0:=by
 unfold takeA at h
 split at h
 ·cases h; decide
 ·split at h
  ·rename_i hp; cases h; exact hp
  ·split at h
   ·split at h
    ·cases h
    ·cases h; decide
   ·cases h; decide
theorem takenA_loop {R:Type} (l:List ag) (hl:l.length≤1000) (hu:∀u∈l,u.length≤1099511627776) (e0:Option R) (e1:Bool→Option R):∀(F i:Nat),i≤l.length→l.length - i<F→cf F l (l.length:Int) (i:Int) e0 e1=e0:=by
 intro F
 induction F with
 | zero=>intro i _ hF; omega
 | succ F ih =>
  intro i hi hF
  show n8 _ _ _ (fun x0 x1 x2=>cf F x0 x1 x2 e0 e1) l (l.length:Int) (i:Int) e0 e1=_
  unfold n8
  by_cases h:i<l.length
  rotate_left
  ·rw[cv (show ¬(i:Int)<(l.length:Int) by omega),cond_false]
  have hg:l.getD (i:Int).toNat (Ty.bR .str)=l[i]:=getD_at h _
  rw[aQ (show (i:Int)<(l.length:Int) by omega),cond_true,ay (Iw i),hg,aaL h (by omega)]
  have ih:=ih (i+1) (by omega) (by omega)
  rw[Md _ (hu _ (List.getElem_mem h))]
  cases ht:takeA l[i]with
  | error e =>
   have c:(e != 0)=true:=by simpa using takeA_err ht
   rw[Vx,c,cond_true]
   exact ih
  | ok o =>
   have hr:=takenA_right ht
   have b0:((0:Int) != 0)=false:=rfl
   rw[outA_ok,b0,cond_false,Q2 hr,takeA_r hr,aaO hr,Bool.not_true,cond_false,b0,cond_false,cond_false,RJ,TX,Bool.not_true,cond_false]
   exact ih
theorem Ya {R:Type} (s:ag) (o:bO) (at_:Int) (more:ag) (hs:Small 1048576 (.str s)) (ho:∀c∈Ty.cells .state o,Small 1048576 c) (ha:Small 1048576 (.int .i64 at_)) (hm:Small 1048576 (.str more)) (k:Bool→Option R):s8 s o at_ more k=k true:=by
 have hr:=ED o
 have hl:=RL hr
 have hl9:=lY (cE (eH (WB o)))
 have hs1:=hs.gL
 have hm1:=hm.gL
 unfold s8 AP
 have b0:((0:Int) != 0)=false:=rfl
 rw[RM,fit09 o (RI ho),Q2 hr,Bool.not_true,cond_false,b0,cond_false]
 generalize hT:cE (eH (WB o))=T at *
 rw[cv (show ¬((ew T).length:Int)<9 by omega),cond_false]
 have hW:IntKind.i64.wrap (((ew T).length:Int) - 9)=(T.length:Int):=by rw[cL (by omega) (by omega)]; omega
 have hT2:((ew T).drop 0).take ((T.length:Int).toNat - 0)=T:=by
  rw[List.drop_zero,Int.toNat_natCast,Nat.sub_zero]
  unfold ew
  simp
 simp only[hW,hT2]
 rw[ay (by rw[aQ (by omega),aQ (by omega)]; rfl),ay (aQ (by omega)),cL (n:=(T.length:Int)+1) (by omega) (by omega),C0 _ _ (RH ha) (by omega),N5 s (by omega)]
 have p1:=Iu at_ ((T.length:Int)+1)
 have p2:=Iv at_ (n:=(T.length:Int)+1) (by omega)
 obtain ⟨j,hj⟩:∃j:Nat,l8 at_ ((T.length:Int)+1)=(j:Int):=⟨(l8 at_ ((T.length:Int)+1)).toNat,by omega⟩
 rw[hj]at p1 p2 ⊢
 have hw:IntKind.i64.wrap ((j:Int)+(more.length:Int))=(j:Int)+(more.length:Int):=cL (by omega) (by omega)
 simp only[hw]
 iterate 6 rw[ay (by simp only[Bool.and_eq_true,decide_eq_true_eq,List.length_append,List.length_take,List.length_drop]; omega)]
 rw[N5 _ (by simp only[List.length_append,List.length_take,List.length_drop]; omega)]
 have key:∀(a b:ag) (F:Nat) (e1:Bool→Option R),a.length≤1099511627776→b.length≤1099511627776→2<F→cf F [a,b] 2 0 (k true) e1=k true:=fun a b F e1 h1 h2 hF=>takenA_loop [a,b] (by simp) (fun u hu=>by
  simp only[List.mem_cons,List.not_mem_nil,or_false]at hu
  rcases hu with rfl|rfl <;> assumption) (k true) e1 F 0 (by simp) (by simpa using hF)
 exact key _ _ _ _ (by rw[lY]; omega) (by rw[lY]; simp only[List.length_append,List.length_take,List.length_drop]; omega) (by simp only[List.length_cons,List.length_nil]; omega)
theorem mk_all:∀(ns:List ag) (xs:List Json) (a:List ag) (b:List Json),ns.length=xs.length→ns.Nodup→(∀n∈ns,n∉a)→Pu.mk ns xs a b=(a++ns,b++xs)
 | [], [],a,b,_,_,_=>by simp[Pu.mk]
 | n::ns,x::xs,a,b,hl,hd,ha=>by
  have hn:a.contains n=false:=by
   cases h:a.contains n with
   | false=>rfl
   | true=>exact (ha n (by simp) (by simpa using h)).elim
  rw[List.nodup_cons]at hd
  simp only[Pu.mk,hn,Bool.false_eq_true,if_false]
  rw[mk_all ns xs (a ++ [n]) (b ++ [x]) (by simpa using hl) hd.2 (fun m hm=>by
   simp only[List.mem_append,List.mem_singleton,not_or]
   exact ⟨ha m (by simp[hm]),fun e=>hd.1 (e▸hm)⟩)]
  simp
 | [],_::_,_,_,h,_,_=>by simp at h
 | _::_, [],_,_,h,_,_=>by simp at h
theorem Fields.O6 {ns:List ag} {is:List Json} (h:Fields ns is):Go.Proofs.YtidfokedcnhahaaGreatDoor.O6 (uL ns is)=true:=(HB _ 1 h.rj (by have:=h.pl; omega)).1
theorem Fields.jok {ns:List ag} {is:List Json} (h:Fields ns is):∀y∈is,Pu.Hk y:=by
 have h1:=xb.1 h.O6
 exact N4 is 2 (Wz h.right) h1.2.2.1
theorem makeF {R:Type} {ns:List ag} {is:List Json} (h:Fields ns is) (k:Json→Option R):dK ns is k=k (uL ns is):=by
 have h1:=xb.1 h.O6
 rw[Pu.make_eq ns is h1.1 h.jok,mk_all ns is [] [] h.len ((FG _ _).1 h.uniq).2.1 (fun n _=>by simp)]
 rfl
theorem printF {R:Type} {ns:List ag} {is:List Json} (h:Fields ns is) (k:ag→Option R):dM (uL ns is) k=k (cE (uL ns is)) :=
 aat _ h.rj h.O6 (by have:=h.pl; omega) k
theorem open_s {R:Type} (t:ag) (h:(ew t).length≤1099511627776) (k:ag→Int→Option R):db (ew t) k=k t 0:=by
 rw[open_ok _ h,RE]
theorem Q3 {α:Type} (l:List α) (j:Nat):((l.drop 0).take ((j:Int).toNat - 0))++(l.drop ((j:Int)+1).toNat)=l.eraseIdx j:=by
 rw[List.drop_zero,Int.toNat_natCast,Nat.sub_zero,List.eraseIdx_eq_take_drop_succ,show ((j:Int)+1).toNat=j+1 by omega]
theorem formsA_loop {R:Type} (v:Json) (hn:v.names.length≤1000) (hi:v.items.length=v.names.length) (o:bO) (out:Int) (e0:Int→List ag→List Json→bO→Json→Option R):∀(F n:Nat) (ns:List ag) (is:List Json),n≤v.names.length→n<F→ns.length+n≤1000→is.length+n≤1000 →
  bW F out ns is ((n:Int) - 1) o v e0=e0 out (ns++(v.names.take n).reverse) (is++(v.items.take n).reverse) o v:=by
 intro F
 induction F with
 | zero=>intro n _ _ _ h; omega
 | succ F ih =>
  intro n ns is h1 h2 h3 h4
  show mV (fun x0 x1 x2 x3 x4 x5=>bW F x0 x1 x2 x3 x4 x5 e0) out ns is ((n:Int) - 1) o v e0=_
  unfold mV
  cases n with
  | zero =>
   rw[cv (show ¬(((0:Nat):Int) - 1)≥0 by omega),cond_false]
   simp[Json.eta]
  | succ n =>
   have e:(((n+1:Nat):Int) - 1)=(n:Int):=by omega
   have hg:v.names.getD (n:Int).toNat (Ty.bR .str)=v.names[n]:=getD_at (by omega) _
   have hg2:v.items.getD (n:Int).toNat (Ty.bR .json)=v.items[n]:=getD_at (by omega) _
   have w:IntKind.i64.wrap ((n:Int) - 1)=(n:Int) - 1:=cL (by omega) (by omega)
   rw[e,aQ (show (n:Int)≥0 by omega),cond_true,ay (by rw[Bool.true_and]; exact aQ (by omega)),ay (aQ (by omega)),ay (by rw[Bool.true_and]; exact aQ (by omega)),ay (aQ (by omega)),hg,hg2,w]
   simp only[Json.eta]
   rw[ih n _ _ (by omega) (by omega) (by simp; omega) (by simp; omega),List.take_succ_eq_append_getElem (by omega),List.take_succ_eq_append_getElem (by omega)]
   simp only[List.reverse_append,List.reverse_cons,List.reverse_nil,List.nil_append,List.append_assoc,List.singleton_append,List.cons_append]
theorem parseA_s {R:Type} {f:bO} (h:jS f=true) (k:Json→Int→Int→Option R):cI (cE (eH f)) k=k (eH f) 0 0:=by
 rw[jparse_ok,QO (FF (Bj h)) (HD (Bj h))]
theorem Yb {R:Type} (s:bO) (out:Int) (nm:ag) (hs:∀c∈Ty.cells .state s,Small 1048576 c) (hout:Small 1048576 (.int .i64 out)) (hm:Small 1048576 (.str nm)) (k:Bool→Option R):ta s out nm k=k true:=by
 have hr:=ED s
 have hm1:=hm.gL
 unfold ta AR
 rw[RM,fit09 s (RI hs),Q2 hr]
 generalize WB s=f at hr ⊢
 have hk:=Bj hr
 have hlen:=HD hk
 have hl:=RL hr
 have b0:((0:Int) != 0)=false:=rfl
 have c1:(((eH f).names.length:Int) != 10)=false:=rfl
 have c2:(((eH f).items.length:Int) != 10)=false:=rfl
 rw[open_s _ (by omega),parseA_s hr,Bool.not_true,cond_false,b0,cond_false,cond_false,cond_false,c1,cond_false,c2,cond_false,fit07 nm (by omega),ay (aQ (by have:=(N3 (YA nm)).2; omega)),QQ (by decide),Json.eta,Json.eta]
 have hL:∀(F:Nat) (e0:Int→List ag→List Json→bO→Json→Option R),10<F→bW F out [([120]:ag)++X5 nm] [AM 1] 9 f (eH f) e0=e0 out (CX nm) (CY f) f (eH f):=fun F e0 hF =>
  formsA_loop (eH f) (by show lx.length≤1000; decide) rfl f out e0 F 10 [([120]:ag)++X5 nm] [AM 1] (by show 10≤lx.length; decide) hF (by show 1+10≤1000; decide) (by show 1+10≤1000; decide)
 rw[hL _ _ (by omega)]
 have hF:=Xq hk nm
 have hp:=hF.pl
 rw[makeF hF,Json.eta,printF hF,N5 _ (by omega),Md _ (by rw[lY]; omega),formA_take hr nm,outA_ok,C0 _ _ (RH hout) (by omega)]
 have p1:=Iu out 10
 have p2:=Iv out (n:=10) (by omega)
 obtain ⟨j,hj⟩:∃j:Nat,l8 out 10=(j:Int):=⟨(l8 out 10).toNat,by omega⟩
 rw[hj]at p1 p2 ⊢
 have hN:(eH f).names.length=10:=rfl
 have hI:(eH f).items.length=10:=rfl
 have w:IntKind.i64.wrap ((j:Int)+1)=(j:Int)+1:=cL (by omega) (by omega)
 rw[w]
 iterate 10 rw[ay (by simp only[Bool.and_eq_true,decide_eq_true_eq,List.length_append,List.length_take,List.length_drop,hN,hI]; omega)]
 rw[Q3,Q3]
 have hE:=(JX hk).1.erase j
 have hq:=hE.pl
 have eN:(eH f).names=lx:=rfl
 have eI:(eH f).items=ly f:=rfl
 have q1:=Iu out 1000
 have q2:=Iv out (n:=1000) (by omega)
 have w1:IntKind.i64.wrap (2*l8 out 1000)=2*l8 out 1000:=cL (by omega) (by omega)
 have w2:IntKind.i64.wrap (2*l8 out 1000+1)=2*l8 out 1000+1:=cL (by omega) (by omega)
 have b1:((0:Int)==0)=true:=rfl
 have b9:((90:Int)==90)=true:=rfl
 have r1:jS ⟨f.header,f.dc,f.bc,f.order,f.update,false,f.node,f.seq,true,f.accepted⟩=false:=rightA_bad f
 have r2:jS ⟨f.header,f.dc,f.bc,f.order,f.update,f.live,f.node,2*l8 out 1000+1,f.bz,f.accepted⟩=false:=rightA_odd f _ q1
 rw[eN,eI,makeF hE,Json.eta,printF hE,N5 _ (by omega),Md _ (by rw[lY]; omega),lessA_take hr j (by omega),Vx,C0 _ _ (RH hout) (by omega),b1,cond_true,RJ,TX,cond_true,b9,cond_true,FH,r1,Bool.not_false,cond_true,w1,w2,FH,r2]
 rfl
end Go.Proofs.YtidfokedcnhahaaGreatDoor
end
