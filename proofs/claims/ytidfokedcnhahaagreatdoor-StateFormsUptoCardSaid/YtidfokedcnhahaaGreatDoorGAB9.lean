/-
  GA, part 9 of 10.
-/
import Derived.Test.YtidfokedcnhahaaGreatDoorGAB8
set_option linter.unusedSimpArgs false
set_option linter.unnecessarySimpa false
set_option linter.unusedVariables false
set_option linter.unusedSectionVars false
noncomputable section
set_option maxRecDepth 100000
namespace Go.Proofs.YtidfokedcnhahaaGreatDoor
open Go Go.aq Go.Lib
theorem Fy:∀(l seen:List ag),tp seen l=true↔(∀n∈l,fE n=true)∧l.Nodup∧∀n∈l,n∉seen
 | [],seen=>by simp[tp]
 | x::l,seen=>by
  have ih:=Fy l (x::seen)
  simp only[tp,Bool.and_eq_true,ih,Bool.not_eq_true',List.contains_eq_mem,decide_eq_false_iff_not]
  constructor
  ·rintro ⟨⟨h1,h2⟩,h3,h4,h5⟩
   refine ⟨fun n hn => ?_,List.nodup_cons.2 ⟨fun hx=>h5 x hx (by simp),h4⟩,fun n hn => ?_⟩
   ·rcases List.mem_cons.1 hn with rfl|hn
    ·exact h2
    ·exact h3 n hn
   ·rcases List.mem_cons.1 hn with rfl|hn
    ·exact h1
    ·exact fun hm=>h5 n hn (by simp[hm])
  ·rintro ⟨h1,h2,h3⟩
   obtain ⟨h4,h5⟩:=List.nodup_cons.1 h2
   refine ⟨⟨h3 x (by simp),h1 x (by simp)⟩,fun n hn=>h1 n (by simp[hn]),h5,fun n hn hm => ?_⟩
   rcases List.mem_cons.1 hm with rfl|hm
   ·exact h4 hn
   ·exact h3 n (by simp[hn]) hm
def Jb:List ag→Nat
 | []=>0
 | n::l=>(NS n).length+2+Jb l
def Jc:List Json→Nat
 | []=>0
 | x::l=>(cD x).length+Jc l
theorem sumN_app:∀(a b:List ag),Jb (a++b)=Jb a+Jb b
 | [],b=>by simp[Jb]
 | x::a,b=>by simp only[List.cons_append,Jb,sumN_app a b]; omega
theorem sumI_app:∀(a b:List Json),Jc (a++b)=Jc a+Jc b
 | [],b=>by simp[Jc]
 | x::a,b=>by simp only[List.cons_append,Jc,sumI_app a b]; omega
theorem aay:∀(a:List ag),Jb a.reverse=Jb a
 | []=>rfl
 | x::a=>by rw[List.reverse_cons,sumN_app,aay a]; simp only[Jb]; omega
theorem aaz:∀(a:List Json),Jc a.reverse=Jc a
 | []=>rfl
 | x::a=>by rw[List.reverse_cons,sumI_app,aaz a]; simp only[Jc]; omega
theorem sumN_sub {a b:List ag} (h:a.Sublist b):Jb a≤Jb b:=by
 induction h with
 | slnil=>exact Nat.le_refl _
 | cons x h ih=>simp only[Jb]; omega
 | cons_cons x h ih=>simp only[Jb]; omega
theorem sumI_sub {a b:List Json} (h:a.Sublist b):Jc a≤Jc b:=by
 induction h with
 | slnil=>exact Nat.le_refl _
 | cons x h ih=>simp only[Jc]; omega
 | cons_cons x h ih=>simp only[Jc]; omega
theorem aaA:∀(ns:List ag) (l:List Json) (b:Bool),ns.length=l.length→(ir ns l b).length≤Jb ns+Jc l
 | [], [],_,_=>by simp[ir,Jb,Jc]
 | n::ns,x::l,b,h=>by
  have ih:=aaA ns l false (by simpa using h)
  have:(if b=true then ([]:ag)else [44]).length≤1:=by cases b <;> simp
  simp only[ir,List.headD_cons,List.tail_cons,List.length_append,List.length_cons,Jb,Jc]
  omega
 | [],_::_,_,h=>by simp at h
 | _::_, [],_,h=>by simp at h
structure Fields (ns:List ag) (is:List Json):Prop where
 len:ns.length=is.length
 uniq:tp [] ns=true
 right:∀x∈is,dZ x 2=true
 short:Jb ns+Jc is≤19000
variable {ns:List ag} {is:List Json}
theorem Fields.rj (h:Fields ns is):dZ (uI ns is) 1=true:=right_obj h.len h.uniq (Wr h.right) (by omega)
theorem Fields.pl (h:Fields ns is):(cD (uI ns is)).length≤19002:=by
 have h1:=len_obj ns is
 have h2:=aaA ns is true h.len
 have:=h.short
 omega
theorem Fields.erase (h:Fields ns is) (k:Nat):Fields (ns.eraseIdx k) (is.eraseIdx k):=by
 obtain ⟨u1,u2,u3⟩:=(Fy _ _).1 h.uniq
 have s1:=List.eraseIdx_sublist ns k
 have s2:=List.eraseIdx_sublist is k
 refine ⟨?_,(Fy _ _).2 ⟨fun n hn=>u1 n (s1.subset hn),u2.sublist s1,fun n hn=>u3 n (s1.subset hn)⟩,fun x hx=>h.right x (s2.subset hx),?_⟩
 ·rw[List.length_eraseIdx,List.length_eraseIdx,h.len]
 ·have:=h.short
  have:=sumN_sub s1
  have:=sumI_sub s2
  omega
theorem Fields.rev (h:Fields ns is):Fields ns.reverse is.reverse:=by
 obtain ⟨u1,u2,u3⟩:=(Fy _ _).1 h.uniq
 refine ⟨by simp[h.len],(Fy _ _).2 ⟨fun n hn=>u1 n (by simpa using hn),by unfold List.Nodup; exact List.pairwise_reverse.2 (List.Pairwise.imp (fun h=>Ne.symm h) u2),fun n hn=>u3 n (by simpa using hn)⟩,fun x hx=>h.right x (by simpa using hx),?_⟩
 rw[aay,aaz]
 exact h.short
theorem Fields.more (h:Fields ns is) {n:ag} {x:Json} (hv:fE n=true) (hn:n∉ns) (hx:dZ x 2=true) (hs:Jb ns+Jc is+((NS n).length+2)+(cD x).length≤19000):Fields (n::ns) (x::is):=by
 obtain ⟨u1,u2,u3⟩:=(Fy _ _).1 h.uniq
 refine ⟨by simp[h.len],(Fy _ _).2 ⟨fun m hm => ?_,List.nodup_cons.2 ⟨hn,u2⟩,fun m hm=>by simp⟩,fun y hy => ?_,?_⟩
 ·rcases List.mem_cons.1 hm with rfl|hm
  ·exact hv
  ·exact u1 m hm
 ·rcases List.mem_cons.1 hy with rfl|hy
  ·exact hx
  ·exact h.right y hy
 ·simp only[Jb,Jc]
  omega
theorem Fields.parse (h:Fields ns is):pE (cD (uI ns is))=(uI ns is,0,0):=QJ h.rj (by have:=h.pl; omega)
theorem valid_all {s:ag} (h:∀b∈s,R4.contains b=true):fE s=true:=by
 refine Hp.2 ⟨s.map (·.toNat),fun c hc => ?_,?_⟩
 ·obtain ⟨b,hb,rfl⟩:=List.mem_map.1 hc
  have:=h b hb
  have all:∀n:Fin 256,R4.contains (UInt8.ofNat n.val)=true→n.val<128:=by decide +kernel
  have h128:b.toNat<128:=by simpa using all ⟨b.toNat,UInt8.toNat_lt b⟩ (by simpa using this)
  exact .inl (by omega)
 ·induction s with
  | nil=>rfl
  | cons b s ih =>
   have hb:=h b (by simp)
   have all:∀n:Fin 256,R4.contains (UInt8.ofNat n.val)=true→enc n.val = [UInt8.ofNat n.val]:=by decide +kernel
   have WD:=all ⟨b.toNat,UInt8.toNat_lt b⟩ (by simpa using hb)
   simp only[List.map_cons,fo,List.flatMap_cons]
   have:=ih fun x hx=>h x (by simp[hx])
   unfold fo at this
   rw[←this]
   have hb3:enc b.toNat = [b]:=by simpa using WD
   rw[hb3]
   rfl
def oddN (w:ag):ag := [120]++XW w
theorem odd_valid (w:ag):fE (oddN w)=true:=valid_all fun b hb=>by
 rcases List.mem_append.1 hb with hb|hb
 ·obtain rfl:=List.mem_singleton.1 hb
  decide +kernel
 ·have:=Yr w
  unfold CR at this
  simp only[Bool.and_eq_true]at this
  exact List.all_eq_true.1 this.1 b hb
theorem odd_short (w:ag):(NS (oddN w)).length≤104:=by
 have h1:=len_str (oddN w)
 have e:cD (strV (oddN w))=NS (oddN w):=by unfold strV; simp only[cD]; rfl
 rw[e]at h1
 have h2:=Yr w
 unfold CR at h2
 simp only[Bool.and_eq_true,decide_eq_true_eq]at h2
 have:(oddN w).length=(XW w).length+1:=by unfold oddN; simp
 omega
theorem odd_new (w:ag) {l:List ag} (h:l.all (fun n=>n.head? != some 120)=true):oddN w∉l:=fun hm=>by
 have:=List.all_eq_true.1 h _ hm
 simp[oddN]at this
theorem JU {s:bO} (h:OkA s):Fields lx (ly s)∧Jb lx+Jc (ly s)≤2000:=by
 obtain ⟨hv,hvl⟩:=NX h.name
 have h1:=tU h.header
 have h2:=tU h.dc
 have h3:=tU h.order
 have h4:=tU h.update
 have h5:=tU h.node
 have h6:=tU h.seq
 have h7:=tU h.accepted
 have h8:=len_str s.bc
 have h9:=Yq s.live
 have h10:=Yq s.bz
 have q:Jb lx≤400:=by decide +kernel
 have hs:Jb lx+Jc (ly s)≤2000:=by
  simp only[ly,Jc]
  omega
 refine ⟨⟨rfl,by decide +kernel,fun x hx => ?_,by omega⟩,hs⟩
 simp only[ly,List.mem_cons,List.not_mem_nil,or_false]at hx
 rcases hx with rfl|rfl|rfl|rfl|rfl|rfl|rfl|rfl|rfl|rfl
 ·exact lW h.header (by omega)
 ·exact lW h.dc (by omega)
 ·exact right_str hv (by omega)
 ·exact lW h.order (by omega)
 ·exact lW h.update (by omega)
 ·exact Ry _ (by omega)
 ·exact lW h.node (by omega)
 ·exact lW h.seq (by omega)
 ·exact Ry _ (by omega)
 ·exact lW h.accepted (by omega)
theorem takeA_val {v:Json} {t:ag} (hp:pE t=(v,0,0)):takeA (ew t)=match stateT v with|some o=>if jO o then .ok o else .error 90|none => .error 90:=by
 unfold takeA
 rw[Rz]
 simp only
 rw[hp]
 simp only[ne_eq,not_true_eq_false,if_false]
 rfl
theorem stateT_all {v:Json} {o:bO} (h:stateT v=some o):(dQ v EN).isSome=true∧(dQ v SK).isSome=true∧(Il v EO).isSome=true∧(dQ v KL).isSome=true∧(dQ v EP).isSome=true∧(pF v SL).isSome=true∧(dQ v SM).isSome=true∧(dQ v tSeq).isSome=true∧(pF v zR).isSome=true∧(dQ v uV).isSome=true:=by
 unfold stateT at h
 split at h
 ·rename_i h1 h2 h3 h4 h5 h6 h7 h8 h9 h10
  rw[h1,h2,h3,h4,h5,h6,h7,h8,h9,h10]
  exact ⟨rfl,rfl,rfl,rfl,rfl,rfl,rfl,rfl,rfl,rfl⟩
 ·cases h
def CT (w:ag):List ag:=oddN w::lx.reverse
def CU (s:bO):List Json:=AI 1::(ly s).reverse
theorem Xh {s:bO} (h:OkA s) (w:ag):Fields (CT w) (CU s):=by
 obtain ⟨f,fs⟩:=JU h
 have h1:=odd_short w
 have h2:=tU (n:=1) (by decide)
 exact f.rev.more (odd_valid w) (odd_new w (by decide +kernel)) (lW (by decide) (by omega)) (by rw[aay,aaz]; omega)
theorem formA_take {s:bO} (h:jO s=true) (w:ag):takeA (ew (cD (uI (CT w) (CU s)))) = .ok s:=by
 have hk:=Bf h
 rw[takeA_val (Xh hk w).parse]
 have e:stateT (uI (CT w) (CU s))=some s:=by
  rw[←aax hk]
  have e1:dQ (uI (CT w) (CU s)) EN=dQ (eF s) EN:=rfl
  have e2:dQ (uI (CT w) (CU s)) SK=dQ (eF s) SK:=rfl
  have e3:Il (uI (CT w) (CU s)) EO=Il (eF s) EO:=rfl
  have e4:dQ (uI (CT w) (CU s)) KL=dQ (eF s) KL:=rfl
  have e5:dQ (uI (CT w) (CU s)) EP=dQ (eF s) EP:=rfl
  have e6:pF (uI (CT w) (CU s)) SL=pF (eF s) SL:=rfl
  have e7:dQ (uI (CT w) (CU s)) SM=dQ (eF s) SM:=rfl
  have e8:dQ (uI (CT w) (CU s)) tSeq=dQ (eF s) tSeq:=rfl
  have e9:pF (uI (CT w) (CU s)) zR=pF (eF s) zR:=rfl
  have e10:dQ (uI (CT w) (CU s)) uV=dQ (eF s) uV:=rfl
  unfold stateT
  rw[e1,e2,e3,e4,e5,e6,e7,e8,e9,e10]
 rw[e]
 simp only
 rw[if_pos h]
theorem lessA_take {s:bO} (h:jO s=true) (k:Nat) (hk:k<10):takeA (ew (cD (uI (lx.eraseIdx k) ((ly s).eraseIdx k)))) = .error 90:=by
 rw[takeA_val ((JU (Bf h)).1.erase k).parse]
 have e:stateT (uI (lx.eraseIdx k) ((ly s).eraseIdx k))=none:=by
  cases hT:stateT (uI (lx.eraseIdx k) ((ly s).eraseIdx k))with
  | none=>rfl
  | some p =>
   exfalso
   obtain ⟨a0,a1,a2,a3,a4,a5,a6,a7,a8,a9⟩:=stateT_all hT
   match k,hk with
   | 0,_ =>
    have:dQ (uI (lx.eraseIdx 0) ((ly s).eraseIdx 0)) EN=none:=rfl
    rw[this]at a0; cases a0
   | 1,_ =>
    have:dQ (uI (lx.eraseIdx 1) ((ly s).eraseIdx 1)) SK=none:=rfl
    rw[this]at a1; cases a1
   | 2,_ =>
    have:Il (uI (lx.eraseIdx 2) ((ly s).eraseIdx 2)) EO=none:=rfl
    rw[this]at a2; cases a2
   | 3,_ =>
    have:dQ (uI (lx.eraseIdx 3) ((ly s).eraseIdx 3)) KL=none:=rfl
    rw[this]at a3; cases a3
   | 4,_ =>
    have:dQ (uI (lx.eraseIdx 4) ((ly s).eraseIdx 4)) EP=none:=rfl
    rw[this]at a4; cases a4
   | 5,_ =>
    have:pF (uI (lx.eraseIdx 5) ((ly s).eraseIdx 5)) SL=none:=rfl
    rw[this]at a5; cases a5
   | 6,_ =>
    have:dQ (uI (lx.eraseIdx 6) ((ly s).eraseIdx 6)) SM=none:=rfl
    rw[this]at a6; cases a6
   | 7,_ =>
    have:dQ (uI (lx.eraseIdx 7) ((ly s).eraseIdx 7)) tSeq=none:=rfl
    rw[this]at a7; cases a7
   | 8,_ =>
    have:pF (uI (lx.eraseIdx 8) ((ly s).eraseIdx 8)) zR=none:=rfl
    rw[this]at a8; cases a8
   | 9,_ =>
    have:dQ (uI (lx.eraseIdx 9) ((ly s).eraseIdx 9)) uV=none:=rfl
    rw[this]at a9; cases a9
 rw[e]
structure StepsO (o:Order):Prop where
 first:Int.tmod (o.nodes.getD 0 Stop.z).seq 2=0∧(o.nodes.getD 0 Stop.z).wv=true
 next:∀i,i<o.Je.length→(o.nodes.getD (i+1) Stop.z).seq=(o.Je.getD i aq.Way.z).seq+1∧(o.Je.getD i aq.Way.z).wv=(o.nodes.getD (i+1) Stop.z).wv
theorem aaB {s:ag} (h:DT s=none):takeA s = .error 60:=by unfold takeA; rw[h]
theorem turn_ne (x c:UInt8):x≠x ^^^ (1+c % 255):=by
 intro h
 have h1:x ^^^ x=x ^^^ (x ^^^ (1+c % 255)):=congrArg (x ^^^ ·) h
 rw[←UInt8.xor_assoc,UInt8.xor_self,UInt8.zero_xor]at h1
 have all:∀n:Fin 256,(0:UInt8)≠1+UInt8.ofNat n.val % 255:=by decide +kernel
 have:=all ⟨c.toNat,UInt8.toNat_lt c⟩
 simp only[UInt8.ofNat_toNat]at this
 exact this h1
theorem turned_shut (t:ag) (k:Nat) (c:UInt8) (hk:k<(ew t).length):DT ((ew t).set k ((ew t)[k] ^^^ (1+c % 255)))=none:=open_altered t k _ hk (turn_ne _ _)
theorem bne_cond {α:Type} [DecidableEq α] (a b:α):(a != b) = !decide (a=b):=by
 by_cases h:a=b <;> simp[h]
theorem beq_dec {α:Type} [DecidableEq α] (a b:α):(a==b)=decide (a=b):=by
 by_cases h:a=b <;> simp[h]
theorem in_range {i n:Nat} (h:i<n):(decide ((0:Int)≤(i:Int))&&decide ((i:Int)<(n:Int)))=true:=by rw[aQ (by omega),aQ (by omega)]; rfl
theorem Ip (i:Nat):(decide ((0:Int)≤(i:Int))&&true)=true:=by rw[aQ (by omega)]; rfl
theorem aaC {i n:Nat} (h:i<n) (hn:n≤4000000000000):IntKind.i64.wrap ((i:Int)+1)=((i+1:Nat):Int):=by rw[cK (by omega) (by omega)]; omega
theorem topicName_ok {R:Type} (s:ag) (k:Bool→Option R):topic_Name s k=k (CR s):=by
 unfold topic_Name topic_Name_X
 rw[ay (by decide +kernel),←trim_name s]
 show (bif (bx s R4==([]:ag))then (bif (!(s==([]:ag)))then k (decide ((s.length:Int)≤16))else k false)else k false)=_
 cases (bx s R4==([]:ag)) <;> cases (s==([]:ag)) <;> rfl
theorem w32 (n:Nat):IntKind.u32.wrap (n:Int)=((n % 4294967296:Nat):Int):=by
 show ((n:Int) % 4294967296)=_
 omega
theorem of32 (n:Nat):(BitVec.ofInt IntKind.u32.bits (n:Int)).toNat=n % 4294967296:=by
 rw[BitVec.toNat_ofInt]
 show ((n:Int) % ((4294967296:Nat):Int)).toNat=_
 omega
theorem xor32 (h c:Nat) (hh:h<4294967296) (c8:UInt8) (hc:c=c8.toNat):IntKind.u32.wrap ((BitVec.ofInt IntKind.u32.bits (h:Int) ^^^ BitVec.ofInt IntKind.u32.bits (c:Int)).toNat:Int)=((h ^^^ c8.toNat:Nat):Int):=by
 have h8:=UInt8.toNat_lt c8
 subst hc
 rw[BitVec.toNat_xor,of32,of32,Nat.mod_eq_of_lt hh,Nat.mod_eq_of_lt (by omega),w32,Nat.mod_eq_of_lt (aaw hh c8)]
theorem step32 (h:Nat) (hh:h<4294967296) (c:UInt8):IntKind.u32.wrap ((IntKind.u32.wrap ((BitVec.ofInt IntKind.u32.bits (h:Int) ^^^ BitVec.ofInt IntKind.u32.bits (IntKind.u32.wrap (c.toNat:Int))).toNat:Int))*16777619)=((CQ h c:Nat):Int):=by
 have h8:=UInt8.toNat_lt c
 rw[w32 c.toNat,Nat.mod_eq_of_lt (by omega),xor32 h c.toNat hh c rfl]
 have e:(((h ^^^ c.toNat:Nat):Int)*16777619)=(((h ^^^ c.toNat)*16777619:Nat):Int):=by rw[Int.natCast_mul]; rfl
 rw[e,w32]
 rfl
theorem sum_loop {R:Type} (s:ag) (hs:s.length≤1099511627785) (e0:Int→Option R):∀(F i h:Nat),i≤s.length→s.length - i<F→h<4294967296→dY F (h:Int) s.length (s.length:Int) (i:Int) (gR s) e0=e0 ((R2 (s.drop i) h:Nat):Int):=by
 intro F
 induction F with
 | zero=>intro i h _ hF; omega
 | succ F ih =>
  intro i h hi hF hh
  show Co (fun x0 x1 x2 x3 x4=>dY F x0 x1 x2 x3 x4 e0) (h:Int) s.length (s.length:Int) (i:Int) (gR s) e0=_
  unfold Co
  by_cases hl:i<s.length
  rotate_left
  ·rw[cu (show ¬(i:Int)<(s.length:Int) by omega),cond_false,List.drop_eq_nil_of_le (by omega)]
   unfold R2
   rw[List.foldl_nil]
  have hw:IntKind.i64.wrap ((i:Int)+1)=((i+1:Nat):Int):=by rw[cK (by omega) (by omega)]; omega
  have hg:(gR s).getD (i:Int).toNat (Ty.bR (.int .u8))=(s[i].toNat:Int):=by
   have e1:((s.map fun b=>(b.toNat:Int)):List Int).getD i 0=(s[i].toNat:Int):=by
    rw[List.getD_eq_getElem?_getD,List.getElem?_map,List.getElem?_eq_getElem hl]
    rfl
   exact e1
  rw[aQ (show (i:Int)<(s.length:Int) by omega),cond_true,ay (by rw[aQ (show (0:Int)≤(i:Int) by omega)]; rfl),ay (aQ (by rw[Int.toNat_natCast,Be,Er]; exact hl)),hg,step32 h hh,hw]
  refine (ih (i+1) _ (by omega) (by omega) (Ev h s[i])).trans ?_
  rw[List.drop_eq_getElem_cons hl,L9]
theorem sum_ok {R:Type} (s:ag) (hs:s.length≤1099511627785) (k:Int→Option R):uD s k=k ((Wq s:Nat):Int):=by
 have e:uD s k=dY (Int.natAbs 2166136261+Int.natAbs (s.length:Int)+Int.natAbs 0+List.length (gR s)+64) ((2166136261:Nat):Int) s.length (s.length:Int) ((0:Nat):Int) (gR s) (fun y7=>k y7):=rfl
 rw[e,sum_loop s hs _ _ 0 _ (by omega) (by omega) (by decide),List.drop_zero]
 rfl
theorem shr4 (n:Nat):Int.fdiv (n:Int) (2 ^ (min 4 IntKind.u32.bits))=((n / 16:Nat):Int):=by
 show Int.fdiv (n:Int) 16=_
 rw[Int.fdiv_eq_ediv_of_nonneg _ (by decide)]
 omega
theorem and15u (n:Nat):IntKind.u32.wrap ((BitVec.ofInt IntKind.u32.bits (n:Int) &&& BitVec.ofInt IntKind.u32.bits 15).toNat:Int)=((n % 16:Nat):Int):=by
 have h2:(BitVec.ofInt IntKind.u32.bits 15).toNat=15:=by decide
 rw[BitVec.toNat_and,of32,h2]
 have h3:(n % 4294967296) &&& 15=(n % 4294967296) % 16:=Nat.and_two_pow_sub_one_eq_mod _ 4
 rw[h3,w32]
 omega
theorem in16 (n:Nat):(decide ((0:Int)≤((n % 16:Nat):Int))&&decide (((n % 16:Nat):Int)<(16:Int)))=true:=by
 rw[aQ (by omega),aQ (by omega)]; rfl
theorem NZ {R:Type} (s:ag) (hs:s.length≤1099511627776) (k:ag→Option R):bQ s k=k (ew s):=by
 have e:bQ s k=JN uD s k:=rfl
 rw[e]
 unfold JN
 rw[sum_ok s (by omega)]
 have hH:=fnv_lt s 2166136261 (by decide)
 unfold ew R3
 unfold Wq
 generalize R2 s 2166136261=H at hH
 simp only[shr4,and15u,in16,cx,cond_true,Int.toNat_natCast]
 rw[aQ (show s.length+1≤9223372036854775807 by omega),cond_true,aQ (by simp only[List.length_append,List.length_map,List.length_cons,List.length_nil]; omega),cond_true]
 congr 1
 rw[List.append_assoc]
 congr 1
 simp only[List.map_cons,List.map_nil,Int.toNat_natCast,UInt8.ofNat_toNat,List.singleton_append,hxB,hxS,Nat.div_div_eq_div_mul]
theorem last_cases (s:ag):(EV s 35 = -1∧∀x∈s,x≠35)∨∃i:Nat,∃h:i<s.length,EV s 35=(i:Int)∧s[i]=35∧∀j (hj:j<s.length),i<j→s[j]≠35:=by
 have Hx:∀j (h:j<s.length),(⟨s.toArray⟩:ByteArray).data[j]! = s[j]:=fun j h=>by
  show s.toArray[j]! = s[j]
  rw[getElem!_pos _ _ (by simpa using h)]
  simp
 have rG:(⟨s.toArray⟩:ByteArray).size=s.length:=by show s.toArray.size=_; simp
 have h35:∀x:UInt8,((x.toNat:Int)=((35:UInt8).toNat:Int))↔x=35:=fun x=>by
  constructor
  ·intro h; exact UInt8.toNat_inj.1 (by omega)
  ·rintro rfl; rfl
 unfold EV
 rcases Go.Lib.lastIndexByte_spec ⟨s.toArray⟩ ((35:UInt8).toNat:Int)with ⟨h1,h2⟩|⟨i,h1,h2,h3,h4⟩
 ·refine .inl ⟨h1,fun x hx => ?_⟩
  obtain ⟨j,hj,rfl⟩:=List.getElem_of_mem hx
  have:=h2 j (by rw[rG]; exact hj)
  rw[Hx j hj]at this
  exact fun e=>this ((h35 _).2 e)
 ·rw[rG]at h1
  refine .inr ⟨i,h1,h2,?_,fun j hj AP => ?_⟩
  ·rw[Hx i h1]at h3
   exact (h35 _).1 h3
  ·have:=h4 j AP (by rw[rG]; exact hj)
   rw[Hx j hj]at this
   exact fun e=>this ((h35 _).2 e)
theorem seal_at (t:ag):∃h:t.length<(ew t).length,(ew t)[t.length]=35∧∀j (hj:j<(ew t).length),t.length<j→(ew t)[j]≠35:=by
 have hl:=lX t
 refine ⟨by omega,?_,fun j hj AP => ?_⟩
 ·simp[ew]
 ·have hm:(ew t)[j]∈R3 (Wq t):=by
   obtain ⟨m,rfl⟩:∃m,j=t.length+(m+1):=⟨j - t.length - 1,by omega⟩
   have e:(ew t)[t.length+(m+1)]? = (R3 (Wq t))[m]? :=by
    unfold ew
    rw[List.getElem?_append_right (by omega),Nat.add_sub_cancel_left,List.getElem?_cons_succ]
   rw[List.getElem?_eq_getElem hj]at e
   exact List.mem_of_getElem? e.symm
  exact hex8_ne _ _ hm
theorem open_ok {R:Type} (s:ag) (hs:s.length≤1099511627776) (k:ag→Int→Option R):db s k=match DT s with|some t=>k t 0|none=>k [] 60:=by
 have e:db s k=JO bQ s k:=rfl
 rw[e]
 unfold JO
 rw[ay (aQ (by omega))]
 rcases last_cases s with ⟨h1,h2⟩|⟨i,hi,h1,h2,h3⟩
 ·rw[h1]
  have:DT s=none:=by
   cases ho:DT s with
   | none=>rfl
   | some t =>
    exfalso
    have e:=RA ho
    obtain ⟨g1,g2,_⟩:=seal_at t
    exact h2 35 (by rw[e,←g2]; exact List.getElem_mem _) rfl
  rw[this]
  rfl
 ·rw[h1]
  rw[cu (show ¬(i:Int)<0 by omega),cond_false]
  have c1:(decide ((0:Int)≤(i:Int))&&decide ((i:Int)≤(s.length:Int)))=true:=by rw[aQ (by omega),aQ (by omega)]; rfl
  have c2:decide ((0:Int)≤(i:Int))=true:=aQ (by omega)
  rw[ay c1,ay c2,Int.toNat_natCast,List.drop_zero,Nat.sub_zero,NZ _ (by rw[List.length_take]; omega)]
  by_cases hq:ew (s.take i)=s
  ·have b1:(!(ew (s.take i)==s))=false:=by simp[hq]
   have ho:DT s=some (s.take i):=by rw[←hq,Rz,hq]
   rw[b1,cond_false,ay c1,ay c2,ho]
  ·have b1:(!(ew (s.take i)==s))=true:=by simpa using hq
   rw[b1,cond_true]
   have ho:DT s=none:=by
    cases ho:DT s with
    | none=>rfl
    | some t =>
     exfalso
     have e:=RA ho
     obtain ⟨g1,g2,g3⟩:=seal_at t
     have hit:i=t.length:=by
      subst e
      rcases Nat.lt_trichotomy i t.length with h|h|h
      ·exact (h3 t.length g1 h g2).elim
      ·exact h
      ·exact (g3 i hi h h2).elim
     apply hq
     rw[e,hit]
     congr 1
     unfold ew
     simp
   rw[ho]
theorem str_ok {R:Type} (s:ag) (k:Json→Option R):uN s k=k (strV s):=rfl
theorem yes_ok {R:Type} (b:Bool) (k:Json→Option R):jj b k=k (yesV b):=by cases b <;> rfl
theorem c_sHeader:([104,101,97,100,101,114,73,100]:ag)=EN:=rfl
theorem c_sSerial:([115,101,114,105,97,108,78,117,109,98,101,114]:ag)=EO:=rfl
theorem c_sOrder:([111,114,100,101,114,73,100]:ag)=KL:=rfl
theorem c_sUpdate:([111,114,100,101,114,85,112,100,97,116,101,73,100]:ag)=EP:=rfl
theorem c_tBoot:([98,111,111,116]:ag)=SK:=rfl
theorem c_tLive:([108,105,118,101]:ag)=SL:=rfl
theorem c_tLast:([108,97,115,116,78,111,100,101,73,100]:ag)=SM:=rfl
theorem c_tSeq:([108,97,115,116,78,111,100,101,83,101,113,117,101,110,99,101,73,100]:ag)=tSeq:=rfl
theorem c_tDriving:([100,114,105,118,105,110,103]:ag)=zR:=rfl
theorem c_tAccepted:([97,99,99,101,112,116,101,100]:ag)=uV:=rfl
theorem zs_getD (l:ag) (i:Nat) (d:Int) (h:i<l.length):(zs l).getD i d=((l.getD i 0).toNat:Int):=by
 rw[getD_at (by rw[Er]; exact h),getD_at h,List.getElem_map]
theorem zs_set (l:ag) (i:Nat) (b:UInt8):(zs l).set i (b.toNat:Int)=zs (l.set i b):=by
 unfold zs
 rw[List.map_set]
theorem fitB_at (b:UInt8):((([97,98,99,120,121,122,65,66,67,88,89,90,48,49,56,57,95,46,58,45]:ag).getD (Int.tmod (IntKind.i64.wrap (b.toNat:Int)) 20).toNat 0).toNat:Int)=((fitB b).toNat:Int)∧0≤Int.tmod (IntKind.i64.wrap (b.toNat:Int)) 20∧Int.tmod (IntKind.i64.wrap (b.toNat:Int)) 20<20:=by
 have h8:=UInt8.toNat_lt b
 have e:Int.tmod (b.toNat:Int) 20=((b.toNat % 20:Nat):Int):=by
  rw[Int.tmod_eq_emod_of_nonneg (by omega)]
  omega
 rw[cK (by omega) (by omega),e]
 exact ⟨rfl,by omega,by omega⟩
theorem fit07_loop {R:Type} (s:ag) (hs:s.length≤15) (e0:Nat→List Int→Option R):∀(F j:Nat),j≤s.length→s.length - j<F →
  dP F (s.length+1) ((j+1:Nat):Int) (zs (CS s j)) e0=e0 (s.length+1) (zs (CS s s.length)):=by
 intro F
 induction F with
 | zero=>intro j _ hF; omega
 | succ F ih =>
  intro j hj hF
  show Ab (fun x0 x1 x2=>dP F x0 x1 x2 e0) (s.length+1) ((j+1:Nat):Int) (zs (CS s j)) e0=_
  unfold Ab
  by_cases h:j<s.length
  ·have hl:(zs (CS s j)).length=s.length+1:=by rw[Er,RB]
   have hg:(zs (CS s j)).getD ((j+1:Nat):Int).toNat (Ty.bR (.int .u8))=(s[j].toNat:Int):=by
    refine (zs_getD _ (j+1) _ (by rw[RB]; omega)).trans ?_
    rw[fitSt_get s j h]
   obtain ⟨f1,f2,f3⟩:=fitB_at s[j]
   have VH:(zs (CS s j)).set ((j+1:Nat):Int).toNat ((fitB s[j]).toNat:Int)=zs (CS s (j+1)):=by
    rw[Int.toNat_natCast,zs_set,fitSt_set s j h]
   have c1:decide (((j+1:Nat):Int)<((s.length+1:Nat):Int))=true:=aQ (by omega)
   have c2:(decide ((0:Int)≤((j+1:Nat):Int))&&true)=true:=Ip _
   have c3:decide (((j+1:Nat):Int).toNat<(zs (CS s j)).length)=true:=aQ (by rw[hl,Int.toNat_natCast]; omega)
   rw[c1,cond_true,ay c2,ay c3,hg,f1,ay (by rw[aQ f2,aQ f3]; rfl),ay c2,ay c3,VH,aaC (show j+1<s.length+1 by omega) (by omega)]
   exact ih (j+1) (by omega) (by omega)
  ·have e:j=s.length:=by omega
   rw[cu (show ¬((j+1:Nat):Int)<((s.length+1:Nat):Int) by omega),cond_false,e]
theorem fit07 {R:Type} (s:ag) (hs:s.length≤1099511627776) (k:ag→Option R):gb s k=k (XW s):=by
 unfold gb Qo
 have hm:(min (s.length:Int) 15)=((min s.length 15:Nat):Int):=by omega
 have ht:(s.drop 0).take ((min (s.length:Int) 15).toNat - 0)=s.take 15:=by
  rw[hm,List.drop_zero,Int.toNat_natCast,Nat.sub_zero]
  rcases Nat.le_total s.length 15 with h|h
  ·rw[Nat.min_eq_left h,List.take_length,List.take_of_length_le h]
  ·rw[Nat.min_eq_right h]
 rw[ay (by rw[hm,aQ (by omega),aQ (by omega)]; rfl),ay (by rw[hm]; exact aQ (by omega)),ht]
 have hl:(s.take 15).length≤15:=by rw[List.length_take]; omega
 rw[ay (aQ (by omega))]
 have e0:([110]:ag)++s.take 15=CS (s.take 15) 0:=by simp[CS]
 rw[e0,RB]
 refine (fit07_loop (s.take 15) hl _ _ 0 (by omega) (by rw[Be,Er,RB]; omega)).trans ?_
 rw[fitSt_end]
 show k (wh (zs (XW s)))=_
 rw[tQ]
structure RawO (o:Order):Prop where
 header:yo o.header
 order:yo o.order
 update:yo o.update
 name:o.bc.length≤1099511627776
 many:o.nodes.length≤1099511627776∧o.Je.length≤1099511627776
 node:∀x∈o.nodes,yo x.node∧yo x.seq
end Go.Proofs.YtidfokedcnhahaaGreatDoor
/-
 Functions of the program as pure Lean functions, and the ties; printed by wip/tools/emit.py.
-/
set_option maxRecDepth 100000
namespace Go.Proofs.YtidfokedcnhahaaGreatDoor
open Go Go.aq
variable {R:Type}
end Go.Proofs.YtidfokedcnhahaaGreatDoor
/-
 Functions of the program as pure Lean functions, and the ties; printed by wip/tools/emit.py.
-/
set_option maxRecDepth 100000
namespace Go.Proofs.YtidfokedcnhahaaGreatDoor
open Go Go.aq
variable {R:Type}
end Go.Proofs.YtidfokedcnhahaaGreatDoor
set_option maxRecDepth 100000
namespace Go.Proofs.YtidfokedcnhahaaGreatDoor
open Go Go.aq Go.Lib
theorem RC {n:Int} (h:Small 1048576 (.int .i64 n)):yo n:=nU.1 h.fg
theorem u8_turn (c:Int) (h:IntKind.u8.has c):IntKind.u8.wrap (1+Int.tmod c 255)=(((1+UInt8.ofNat c.toNat % 255:UInt8)).toNat:Int)∧(UInt8.ofNat c.toNat).toNat=c.toNat:=by
 have hb:0≤c∧c<256:=by
  have:=h
  simp only[IntKind.has,IntKind.min,IntKind.max,IntKind.bits,IntKind.signed]at this
  simp at this
  omega
 have all:∀n:Fin 256,IntKind.u8.wrap (1+Int.tmod (n.val:Int) 255)=(((1+UInt8.ofNat n.val % 255:UInt8)).toNat:Int)∧(UInt8.ofNat n.val).toNat=n.val:=by decide +kernel
 have:=all ⟨c.toNat,by omega⟩
 simp only at this
 have e:((c.toNat:Nat):Int)=c:=by omega
 rw[e]at this
 exact this
theorem of8 (a:UInt8):(BitVec.ofInt IntKind.u8.bits (a.toNat:Int)).toNat=a.toNat:=by
 have:=UInt8.toNat_lt a
 rw[BitVec.toNat_ofInt]
 show ((a.toNat:Int) % ((256:Nat):Int)).toNat=_
 omega
theorem xor8 (a b:UInt8):IntKind.u8.wrap ((BitVec.ofInt IntKind.u8.bits (a.toNat:Int) ^^^ BitVec.ofInt IntKind.u8.bits (b.toNat:Int)).toNat:Int)=((a ^^^ b).toNat:Int):=by
 have h:=UInt8.toNat_lt (a ^^^ b)
 rw[BitVec.toNat_xor,of8,of8,←UInt8.toNat_xor,wrap8,Nat.mod_eq_of_lt (by omega)]
theorem bstr_one (c:Int):(List.map (fun n:Int=>UInt8.ofNat n.toNat) [c]:ag) = [UInt8.ofNat c.toNat]:=rfl
theorem turned_text (w:ag) (j:Nat) (hj:j<w.length) (c:Int) (hc:IntKind.u8.has c):(List.map (fun n:Int=>UInt8.ofNat n.toNat) ((gR w).set j (IntKind.u8.wrap ((BitVec.ofInt IntKind.u8.bits ((gR w).getD j (Ty.bR (.int .u8))) ^^^ BitVec.ofInt IntKind.u8.bits (IntKind.u8.wrap (1+Int.tmod c 255))).toNat:Int))):ag)=w.set j (w[j] ^^^ (1+UInt8.ofNat c.toNat % 255)):=by
 have hg:(gR w).getD j (Ty.bR (.int .u8))=(w[j].toNat:Int):=by
  refine (zs_getD w j _ hj).trans ?_
  rw[getD_at hj]
 rw[hg,(u8_turn c hc).1,xor8,Be,zs_set]
 exact tQ _
theorem w7 (a b:bO):lA a b=true↔b.dc<a.dc∨(a.dc=b.dc∧b.header<a.header):=by
 unfold lA
 rw[Bool.or_eq_true,Bool.and_eq_true,decide_eq_true_eq,decide_eq_true_eq,decide_eq_true_eq]
theorem newerA_self (a:bO):lA a a=false:=Bool.eq_false_iff.2 fun h=>by
 have:=(w7 a a).1 h
 omega
theorem Xi {a b:bO} (h:a.dc=b.dc∧a.header=b.header):lA a b=false:=Bool.eq_false_iff.2 fun h'=>by
 have:=(w7 a b).1 h'
 omega
theorem newerA_one {a b:bO} (h:¬(a.dc=b.dc∧a.header=b.header)):lA b a = !lA a b:=by
 cases e:lA a b with
 | true =>
  have:=(w7 a b).1 e
  exact Bool.eq_false_iff.2 fun h'=>by
   have:=(w7 b a).1 h'
   omega
 | false =>
  have e':¬lA a b=true:=by rw[e]; decide
  rw[w7]at e'
  exact (w7 b a).2 (by omega)
theorem newerA_trans {a b c:bO} (h1:lA a b=true) (h2:lA b c=true):lA a c=true:=by
 rw[w7]at h1 h2 ⊢
 omega
theorem newerA_law (a b c:bO):(bif lA a a||(((a.dc==b.dc)&&(a.header==b.header))&&(lA a b||lA b a))||(!((a.dc==b.dc)&&(a.header==b.header))&&(lA a b==lA b a))then false else (!lA a b || !lA b c||lA a c))=true:=by
 rw[newerA_self,Bool.false_or]
 by_cases h:a.dc=b.dc∧a.header=b.header
 ·rw[Xi h,Xi ⟨h.1.symm,h.2.symm⟩,beq_iff_eq.2 h.1,beq_iff_eq.2 h.2]
  rfl
 ·have e:((a.dc==b.dc)&&(a.header==b.header))=false:=by
   rw[Bool.eq_false_iff,ne_eq,Bool.and_eq_true,beq_iff_eq,beq_iff_eq]
   exact h
  rw[e,newerA_one h]
  cases h1:lA a b with
  | false=>rfl
  | true =>
   cases h2:lA b c with
   | false=>rfl
   | true=>rw[newerA_trans h1 h2]; rfl
end Go.Proofs.YtidfokedcnhahaaGreatDoor
/-
 Functions of the program as pure Lean functions, and the ties; printed by wip/tools/emit.py.
-/
set_option maxRecDepth 100000
namespace Go.Proofs.YtidfokedcnhahaaGreatDoor
open Go Go.aq
variable {R:Type}
/-! ### humpyard/state.Newer -/
abbrev w8 (R:Type):Type:=aq.State→aq.State→(Bool→Option R)→Option R
abbrev KM:List cY := [.agg [.int .i64, .int .i64, .str, .int .i64, .int .i64, .bool, .int .i64, .int .i64, .bool, .int .i64], .agg [.int .i64, .int .i64, .str, .int .i64, .int .i64, .bool, .int .i64, .int .i64, .bool, .int .i64]]
abbrev KN:List aY := []
def QM (fn:w8 R):jR R KM KN:=fun x y k=>fn (⟨x.1.1,x.1.2.1,x.1.2.2.1,x.1.2.2.2.1,x.1.2.2.2.2.1,x.1.2.2.2.2.2.1,x.1.2.2.2.2.2.2.1,x.1.2.2.2.2.2.2.2.1,(t8 x.1).1,(t8 x.1).2.1⟩:aq.State) (⟨x.2.1.1,x.2.1.2.1,x.2.1.2.2.1,x.2.1.2.2.2.1,x.2.1.2.2.2.2.1,x.2.1.2.2.2.2.2.1,x.2.1.2.2.2.2.2.2.1,x.2.1.2.2.2.2.2.2.2.1,(t8 x.2.1).1,(t8 x.2.1).2.1⟩:aq.State) (fun q0=>k (.bool q0) [])
def KO (fn:w8 R):=aC KM KN (QM fn)
section
variable (gu:tP R) (oW:EL R)
def SN:List (lC R) := [(93,true,(JP gu av)),(92,true,(Vb oW av))]
def KP (x1:aq.State) (x2:aq.State) (k0:Bool→Option R):Option R :=
 gu x1.dc x2.dc (fun y3=>gu x1.header x2.header (fun y4=>oW ([y3,y4]:List Int) (fun y5=>k0 (decide (y5>(0:Int))))))
theorem aaD:dD (R:=R) tt (SN gu oW) nJ false Tryz.f43 KM KN (QM (KP gu oW)):=fun x y k=>by kernel_rfl
end
theorem XX:cq (R:=R) Tryz.prog (SN (R:=R) gu oW) := .c (QD R) <| .c (XS R) <| .n
def cX:w8 R:=fun x1 x2 k0=>KP gu oW x1 x2 k0
theorem Ma (R:Type):jQ Tryz.prog 43 (KO (cX (R:=R))):=bj TT mixed (XX (R:=R)) rfl rfl rfl rfl bX (aaD gu oW)
/-! ### humpyard/humpyardlaw09.awake -/
abbrev k6 (R:Type):Type:=(Bool→Option R)→Option R
abbrev KQ:List cY := []
abbrev KR:List aY := []
def QN (fn:k6 R):jR R KQ KR:=fun x y k=>fn (fun q0=>k (.bool q0) [])
def rq (fn:k6 R):=aC KQ KR (QN fn)
section
variable (bQ:nX R) (bl:nZ R) (cX:w8 R) (aE:fL R) (br:om R)
def SO:List (lC R) := [(28,true,(A5 bQ av)),(39,true,(wY bl av)),(43,true,(KO cX av)),(41,true,(qY aE av)),(46,true,(xw br av))]
def KS (k0:Bool→Option R):Option R :=
 bl (⟨1,2,([118]:ag),3,4,true,5,6,true,7⟩:aq.State) (fun y1 y2=>br y1 (fun y3 y4=>bl (⟨0,0,([]:ag),0,0,false,0,0,false,0⟩:aq.State) (fun y5 y6=>bif (y2==0)then (bQ ([123,34,104,101,97,100,101,114,73,100,34,58,49,44,34,98,111,111,116,34,58,50,44,34,115,101,114,105,97,108,78,117,109,98,101,114,34,58,34,118,34,44,34,111,114,100,101,114,73,100,34,58,51,44,34,111,114,100,101,114,85,112,100,97,116,101,73,100,34,58,52,44,34,108,105,118,101,34,58,116,114,117,101,44,34,108,97,115,116,78,111,100,101,73,100,34,58,53,44,34,108,97,115,116,78,111,100,101,83,101,113,117,101,110,99,101,73,100,34,58,54,44,34,100,114,105,118,105,110,103,34,58,116,114,117,101,44,34,97,99,99,101,112,116,101,100,34,58,55,125]:ag) (fun y7=>bif (y1==y7)then (bif (decide ((y1.length:Int)>(100:Int)))then (bif (y4==0)then (bif (y3.header==1&&(y3.dc==2&&(y3.bc==([118]:ag)&&(y3.order==3&&(y3.update==4&&(y3.live==true&&(y3.node==5&&(y3.seq==6&&(y3.bz==true&&(y3.accepted==7&&true))))))))))then (bif (y6==1)then (cX (⟨5,1,([]:ag),0,0,false,0,0,false,0⟩:aq.State) (⟨0,2,([]:ag),0,0,false,0,0,false,0⟩:aq.State) (fun y8=>bif (!y8)then (aE (⟨1,2,([118]:ag),3,4,true,5,6,true,7⟩:aq.State) (fun y9=>k0 y9))else (k0 false)))else (k0 false))else (k0 false))else (k0 false))else (k0 false))else (k0 false)))else (k0 false))))
theorem aaE:dD (R:=R) tt (SO bQ bl cX aE br) nJ false Tryz.f37 KQ KR (QN (KS bQ bl cX aE br)):=fun x y k=>by kernel_rfl
end
theorem XY:cq (R:=R) Tryz.prog (SO (R:=R) bQ bl cX aE br) := .c (wX R) <| .c (sV R) <| .c (Ma R) <| .c (ox R) <| .c (uG R) <| .n
def aX:k6 R:=fun  k0=>KS bQ bl cX aE br  k0
theorem oA (R:Type):jQ Tryz.prog 37 (rq (aX (R:=R))):=bj TT mixed (XY (R:=R)) rfl rfl rfl rfl bX (aaE bQ bl cX aE br)
/-! ### humpyard/humpyardlaw09.pick -/
abbrev rA (R:Type):Type:=Int→Int→(Int→Option R)→Option R
abbrev N0:List cY := [.leaf (.int .i64), .leaf (.int .i64)]
abbrev N1:List aY := []
def SP (fn:rA R):jR R N0 N1:=fun x y k=>fn x.1 x.2.1 (fun q0=>k (.int .i64 q0) [])
def CV (fn:rA R):=aC N0 N1 (SP fn)
section
def Vo (x1:Int) (x2:Int) (k0:Int→Option R):Option R :=
 bif (decide (x1<(0:Int)))then (cx (!decide (x2=0)) (k0 (Int.tmod (IntKind.i64.wrap (0 - (IntKind.i64.wrap (x1+1)))) x2)))else (cx (!decide (x2=0)) (k0 (Int.tmod x1 x2)))
theorem law09_pick_ok:dD (R:=R) tt [] nJ false Tryz.f45 N0 N1 (SP Vo):=fun x y k=>by kernel_rfl
end
def bJ:rA R:=fun x1 x2 k0=>Vo x1 x2 k0
theorem Ac (R:Type):jQ Tryz.prog 45 (CV (bJ (R:=R))):=bj TT mixed .n rfl rfl rfl rfl bX (law09_pick_ok)
/-! ### humpyard/humpyardlaw09.Fit -/
abbrev qz (R:Type):Type:=aq.State→(aq.State→Option R)→Option R
abbrev QO:List cY := [.agg [.int .i64, .int .i64, .str, .int .i64, .int .i64, .bool, .int .i64, .int .i64, .bool, .int .i64]]
abbrev QP:List aY := []
def Vp (fn:qz R):jR R QO QP:=fun x y k=>fn (⟨x.1.1,x.1.2.1,x.1.2.2.1,x.1.2.2.2.1,x.1.2.2.2.2.1,x.1.2.2.2.2.2.1,x.1.2.2.2.2.2.2.1,x.1.2.2.2.2.2.2.2.1,(t8 x.1).1,(t8 x.1).2.1⟩:aq.State) (fun q0=>k (.agg [.int .i64 q0.header, .int .i64 q0.dc, .str q0.bc, .int .i64 q0.order, .int .i64 q0.update, .bool q0.live, .int .i64 q0.node, .int .i64 q0.seq, .bool q0.bz, .int .i64 q0.accepted]) [])
def Bg (fn:qz R):=aC QO QP (Vp fn)
section
variable (gb:Cp R) (bJ:rA R)
def Xj:List (lC R) := [(33,true,(Qn gb av)),(45,true,(CV bJ av))]
def QQ (x1:aq.State) (k0:aq.State→Option R):Option R :=
 bJ x1.header 1000000001 (fun y2=>bJ x1.dc 1000000001 (fun y3=>gb x1.bc (fun y4=>bJ x1.order 1000000001 (fun y5=>bJ x1.update 1000000001 (fun y6=>bif x1.live then (bJ x1.node 1000000001 (fun y7=>bJ x1.seq 500000001 (fun y8=>bJ x1.accepted 1000000001 (fun y9=>k0 (⟨y2,y3,y4,y5,y6,true,y7,(IntKind.i64.wrap (2*y8)),x1.bz,y9⟩:aq.State)))))else (bJ x1.node 1000000001 (fun oc=>bJ x1.seq 500000001 (fun uf=>bJ x1.accepted 1000000001 (fun za=>k0 (⟨y2,y3,y4,y5,y6,x1.bz,oc,(IntKind.i64.wrap (2*uf)),x1.bz,za⟩:aq.State))))))))))
theorem law09_Fit_ok:dD (R:=R) tt (Xj gb bJ) nJ false Tryz.f38 QO QP (Vp (QQ gb bJ)):=fun x y k=>by kernel_rfl
end
theorem law09_Fit_EOk:cq (R:=R) Tryz.prog (Xj (R:=R) gb bJ) := .c (Qp R) <| .c (Ac R) <| .n
def cb:qz R:=fun x1 k0=>QQ gb bJ x1 k0
theorem w9 (R:Type):jQ Tryz.prog 38 (Bg (cb (R:=R))):=bj TT mixed (law09_Fit_EOk (R:=R)) rfl rfl rfl rfl bX (law09_Fit_ok gb bJ)
end Go.Proofs.YtidfokedcnhahaaGreatDoor
set_option maxRecDepth 100000
namespace Go.Proofs.YtidfokedcnhahaaGreatDoor
open Go Go.aq Go.Lib
theorem min_loop {R:Type} (l:List Int) (hl:l.length≤1000) (e0:Int→Option R):∀(F i:Nat) (m:Int),i≤l.length→l.length - i<F →
  cf F l m (i:Int) e0=e0 ((l.drop i).foldl min m):=by
 intro F
 induction F with
 | zero=>intro i m _ hF; omega
 | succ F ih =>
  intro i m hi hF
  show mS (fun x0 x1 x2=>cf F x0 x1 x2 e0) l m (i:Int) e0=_
  unfold mS
  by_cases h:i<l.length
  ·have hg:l.getD (i:Int).toNat (Ty.bR (.int .i64))=l[i]:=getD_at h _
   rw[aQ (show (i:Int)<(l.length:Int) by omega),cond_true,ay (Ip i),hg,aaC h (by omega)]
   dsimp only
   rw[ih (i+1) _ (by omega) (by omega),List.drop_eq_getElem_cons h]
   rfl
  ·rw[cu (show ¬(i:Int)<(l.length:Int) by omega),cond_false,List.drop_eq_nil_of_le (by omega)]
   rfl
theorem min_ok {R:Type} (a:Int) (l:List Int) (hl:l.length≤100) (k:Int→Option R):fJ (a::l) k=k (l.foldl min a):=by
 unfold fJ yy
 rw[cu (show ¬(((a::l).length:Nat):Int)<1 by simp only[List.length_cons]; omega),cond_false,ay (aQ (by simp only[List.length_cons]; omega))]
 have hg:(a::l).getD 0 (Ty.bR (.int .i64))=a:=rfl
 rw[hg]
 refine (min_loop (a::l) (by simp only[List.length_cons]; omega) _ _ 1 a (by simp) (by simp only[List.length_cons]; omega)).trans ?_
 rfl
theorem max_loop {R:Type} (l:List Int) (hl:l.length≤1000) (e0:Int→Option R):∀(F i:Nat) (m:Int),i≤l.length→l.length - i<F →
  cg F l m (i:Int) e0=e0 ((l.drop i).foldl max m):=by
 intro F
 induction F with
 | zero=>intro i m _ hF; omega
 | succ F ih =>
  intro i m hi hF
  show mU (fun x0 x1 x2=>cg F x0 x1 x2 e0) l m (i:Int) e0=_
  unfold mU
  by_cases h:i<l.length
  ·have hg:l.getD (i:Int).toNat (Ty.bR (.int .i64))=l[i]:=getD_at h _
   rw[aQ (show (i:Int)<(l.length:Int) by omega),cond_true,ay (Ip i),hg,aaC h (by omega)]
   dsimp only
   rw[ih (i+1) _ (by omega) (by omega),List.drop_eq_getElem_cons h]
   rfl
  ·rw[cu (show ¬(i:Int)<(l.length:Int) by omega),cond_false,List.drop_eq_nil_of_le (by omega)]
   rfl
theorem max_ok {R:Type} (a:Int) (l:List Int) (hl:l.length≤100) (k:Int→Option R):fK (a::l) k=k (l.foldl max a):=by
 unfold fK yB
 rw[cu (show ¬(((a::l).length:Nat):Int)<1 by simp only[List.length_cons]; omega),cond_false,ay (aQ (by simp only[List.length_cons]; omega))]
 have hg:(a::l).getD 0 (Ty.bR (.int .i64))=a:=rfl
 rw[hg]
 refine (max_loop (a::l) (by simp only[List.length_cons]; omega) _ _ 1 a (by simp) (by simp only[List.length_cons]; omega)).trans ?_
 rfl
theorem min_ge:∀(l:List Int) (a x:Int),x≤l.foldl min a↔x≤a∧∀y∈l,x≤y
 | [],a,x=>by simp
 | b::l,a,x=>by
  rw[List.foldl_cons,min_ge l]
  simp only[List.mem_cons,forall_eq_or_imp]
  constructor
  ·rintro ⟨h1,h2⟩; exact ⟨by omega,by omega,h2⟩
  ·rintro ⟨h1,h2,h3⟩; exact ⟨by omega,h3⟩
theorem max_le:∀(l:List Int) (a x:Int),l.foldl max a≤x↔a≤x∧∀y∈l,y≤x
 | [],a,x=>by simp
 | b::l,a,x=>by
  rw[List.foldl_cons,max_le l]
  simp only[List.mem_cons,forall_eq_or_imp]
  constructor
  ·rintro ⟨h1,h2⟩; exact ⟨by omega,by omega,h2⟩
  ·rintro ⟨h1,h2,h3⟩; exact ⟨by omega,h3⟩
theorem both_all (a:Int) (l:List Int):(decide (l.foldl min a≥0)&&decide (l.foldl max a≤1000000000))=(a::l).all jC:=by
 rw[Bool.eq_iff_iff,Bool.and_eq_true,decide_eq_true_eq,decide_eq_true_eq,ge_iff_le,min_ge,max_le,List.all_eq_true]
 simp only[List.mem_cons,forall_eq_or_imp,Hu]
 constructor
 ·rintro ⟨⟨h1,h2⟩,h3,h4⟩; exact ⟨⟨h1,h3⟩,fun y hy=>⟨h2 y hy,h4 y hy⟩⟩
 ·rintro ⟨⟨h1,h3⟩,h2⟩; exact ⟨⟨h1,fun y hy=>(h2 y hy).1⟩,h3,fun y hy=>(h2 y hy).2⟩
theorem Fz {R:Type} (s:bO) (k:Bool→Option R):aE s k=k (jO s):=by
 unfold aE Kw
 rw[topicName_ok,min_ok _ _ (by simp),max_ok _ _ (by simp)]
 have hb:=both_all s.header [s.dc,s.order,s.update,s.node,s.seq,s.accepted]
 have hr:jO s=(CR s.bc&&(([s.header,s.dc,s.order,s.update,s.node,s.seq,s.accepted]:List Int).all jC&&(decide (Int.tmod s.seq 2=0)&&(s.live || !s.bz)))):=by
  unfold jO
  simp only[List.all_cons,List.all_nil,Bool.and_true]
 rw[hr,←hb,beq_dec]
 cases CR s.bc <;> cases decide (List.foldl min s.header [s.dc,s.order,s.update,s.node,s.seq,s.accepted]≥0) <;> cases decide (List.foldl max s.header [s.dc,s.order,s.update,s.node,s.seq,s.accepted]≤1000000000) <;> cases decide (Int.tmod s.seq 2=0) <;> cases s.live <;> rfl
def cmpI (x y:Int):Int:=if x<y then -1 else if x>y then 1 else 0
theorem cmpI_ok {R:Type} (x y:Int) (k:Int→Option R):gu x y k=k (cmpI x y):=by
 unfold gu CI ju F8 cmpI
 have hx:(x != x)=false:=by simp
 have hy:(y != y)=false:=by simp
 rw[hx,hy]
 dsimp only
 rw[cond_false,cond_false]
 by_cases h1:x<y
 ·rw[aQ h1,if_pos h1]; rfl
 ·rw[cu h1,if_neg h1,cond_false]
  by_cases h2:x>y
  ·rw[aQ h2,if_pos h2]; rfl
  ·rw[cu h2,if_neg h2]; rfl
theorem or_loop {R:Type} (l:List Int) (hl:l.length≤1000) (e0:Int→Option R) (e1:Int→Int→Option R):∀(F i:Nat),i≤l.length→l.length - i<F →
  dz F 0 l (l.length:Int) (i:Int) e0 e1=match (l.drop i).find? (· != 0)with|some x=>e1 x 0|none=>e0 0:=by
 intro F
 induction F with
 | zero=>intro i _ hF; omega
 | succ F ih =>
  intro i hi hF
  show xA (fun x0 x1 x2 x3=>dz F x0 x1 x2 x3 e0 e1) 0 l (l.length:Int) (i:Int) e0 e1=_
  unfold xA
  by_cases h:i<l.length
  ·have hg:l.getD (i:Int).toNat (Ty.bR (.int .i64))=l[i]:=getD_at h _
   rw[aQ (show (i:Int)<(l.length:Int) by omega),cond_true,ay (Ip i),hg,aaC h (by omega)]
   dsimp only
   rw[ih (i+1) (by omega) (by omega),List.drop_eq_getElem_cons h,List.find?_cons]
   cases l[i] != 0 <;> rfl
  ·rw[cu (show ¬(i:Int)<(l.length:Int) by omega),cond_false,List.drop_eq_nil_of_le (by omega)]
   rfl
theorem or_ok {R:Type} (a b:Int) (k:Int→Option R):oW [a,b] k=k (if a≠0 then a else b):=by
 unfold oW NQ
 refine (or_loop [a,b] (by simp) _ _ _ 0 (by simp) (by simp only[List.length_cons,List.length_nil]; omega)).trans ?_
 rw[List.drop_zero,List.find?_cons,List.find?_cons,bne_cond,bne_cond]
 by_cases h1:a=0
 ·rw[aQ h1,if_neg (by simp[h1])]
  by_cases h2:b=0
  ·rw[aQ h2,h2]; rfl
  ·rw[cu h2]; rfl
 ·rw[cu h1,if_pos h1]; rfl
theorem Xk {R:Type} (a b:bO) (k:Bool→Option R):cX a b k=k (lA a b):=by
 unfold cX KP
 rw[cmpI_ok,cmpI_ok,or_ok]
 congr 1
 rw[Bool.eq_iff_iff,w7,decide_eq_true_eq]
 unfold cmpI
 split <;> split <;> (try split) <;> (try split) <;> omega
theorem l_045a {R:Type} (s:bO) (hk:jC s.header=true) (k:Json→bO→Option R):dm s k=k (AI s.header) s:=by
 unfold dm uZ
 rw[QL hk,Json.eta]
theorem l_1d47 {R:Type} (s:bO) (hk:jC s.dc=true) (k:Json→bO→Option R):dn s k=k (AI s.dc) s:=by
 unfold dn u6
 rw[QL hk,Json.eta]
theorem l_f449 {R:Type} (s:bO) (k:Json→bO→Option R):ef s k=k (strV s.bc) s:=by
 unfold ef yE
 rw[str_ok,Json.eta]
theorem l_e814 {R:Type} (s:bO) (hk:jC s.order=true) (k:Json→bO→Option R):dp s k=k (AI s.order) s:=by
 unfold dp vb
 rw[QL hk,Json.eta]
theorem l_86d3 {R:Type} (s:bO) (hk:jC s.update=true) (k:Json→bO→Option R):dq s k=k (AI s.update) s:=by
 unfold dq vf
 rw[QL hk,Json.eta]
theorem l_a989 {R:Type} (s:bO) (k:Json→bO→Option R):eg s k=k (yesV s.live) s:=by
 unfold eg yH
 rw[yes_ok,Json.eta]
theorem l_3183 {R:Type} (s:bO) (hk:jC s.node=true) (k:Json→bO→Option R):dt s k=k (AI s.node) s:=by
 unfold dt vi
 rw[QL hk,Json.eta]
theorem l_e1c6 {R:Type} (s:bO) (hk:jC s.seq=true) (k:Json→bO→Option R):du s k=k (AI s.seq) s:=by
 unfold du vl
 rw[QL hk,Json.eta]
theorem l_947c {R:Type} (s:bO) (k:Json→bO→Option R):eh s k=k (yesV s.bz) s:=by
 unfold eh yK
 rw[yes_ok,Json.eta]
theorem l_c9ad {R:Type} (s:bO) (hk:jC s.accepted=true) (k:Json→bO→Option R):dv s k=k (AI s.accepted) s:=by
 unfold dv vo
 rw[QL hk,Json.eta]
theorem mk_state (a b c d e f g h i j:Json):Pu.mk lx [a,b,c,d,e,f,g,h,i,j] [] []=(lx, [a,b,c,d,e,f,g,h,i,j]):=by kernel_rfl
theorem itemsA_jok {s:bO} (hk:OkA s):∀y∈ly s,Pu.Hb y:=by
 have h1:=w3.1 (Ht (eF s) 1 (Fx hk) (by have:=Hv hk; omega)).1
 exact NY (ly s) 2 (Wr (JU hk).1.right) h1.2.2.1
theorem layA_ok {R:Type} (s:bO) (k:ag→Int→Option R):bl s k=if jO s then k (ew (cD (eF s))) 0 else k [] 1:=by
 unfold bl Qz
 rw[Fz]
 cases h:jO s with
 | false=>rfl
 | true =>
  have hk:=Bf h
  have hlen:=Hv hk
  rw[Bool.not_true,cond_false,l_045a s hk.header,l_1d47 s hk.dc,l_f449,l_e814 s hk.order,l_86d3 s hk.update,l_a989,l_3183 s hk.node,l_e1c6 s hk.seq,l_947c,l_c9ad s hk.accepted]
  refine (Pu.make_eq lx (ly s) (by decide) (itemsA_jok hk) _).trans ?_
  have e:Pu.mk lx (ly s) [] []=(lx,ly s):=mk_state _ _ _ _ _ _ _ _ _ _
  rw[e]
  refine (aak (eF s) (Fx hk) (Ht (eF s) 1 (Fx hk) (by omega)).1 (by omega) _).trans ?_
  rw[NZ _ (by omega)]
  rfl
theorem t_7ba2_some {R:Type} {v:Json} (hv:Pu.Hb v) {w:ag} {x:Int} (hx:dQ v w=some x) (a:Int) (b:Int) (c:ag) (d:Int) (e:Int) (f:Bool) (g:Int) (h:Int) (i:Bool) (j:Int) (q:Bool→ag→bO→Option R):bB v w ⟨a,b,c,d,e,f,g,h,i,j⟩ q=q true w ⟨x,b,c,d,e,f,g,h,i,j⟩:=by
 unfold bB o8
 simp only[Json.eta]
 unfold dQ at hx
 rw[Pu.B4 v hv,hx]
theorem t_7ba2_none {R:Type} {v:Json} (hv:Pu.Hb v) {w:ag} (hx:dQ v w=none) (a:Int) (b:Int) (c:ag) (d:Int) (e:Int) (f:Bool) (g:Int) (h:Int) (i:Bool) (j:Int) (q:Bool→ag→bO→Option R):bB v w ⟨a,b,c,d,e,f,g,h,i,j⟩ q=q false w ⟨0,b,c,d,e,f,g,h,i,j⟩:=by
 unfold bB o8
 simp only[Json.eta]
 unfold dQ at hx
 rw[Pu.B4 v hv,hx]
theorem t_40a7_some {R:Type} {v:Json} (hv:Pu.Hb v) {w:ag} {x:Int} (hx:dQ v w=some x) (a:Int) (b:Int) (c:ag) (d:Int) (e:Int) (f:Bool) (g:Int) (h:Int) (i:Bool) (j:Int) (q:Bool→ag→bO→Option R):bC v w ⟨a,b,c,d,e,f,g,h,i,j⟩ q=q true w ⟨a,x,c,d,e,f,g,h,i,j⟩:=by
 unfold bC o9
 simp only[Json.eta]
 unfold dQ at hx
 rw[Pu.B4 v hv,hx]
theorem t_40a7_none {R:Type} {v:Json} (hv:Pu.Hb v) {w:ag} (hx:dQ v w=none) (a:Int) (b:Int) (c:ag) (d:Int) (e:Int) (f:Bool) (g:Int) (h:Int) (i:Bool) (j:Int) (q:Bool→ag→bO→Option R):bC v w ⟨a,b,c,d,e,f,g,h,i,j⟩ q=q false w ⟨a,0,c,d,e,f,g,h,i,j⟩:=by
 unfold bC o9
 simp only[Json.eta]
 unfold dQ at hx
 rw[Pu.B4 v hv,hx]
theorem t_3696_some {R:Type} {v:Json} (hv:Pu.Hb v) {w:ag} {x:ag} (hx:Il v w=some x) (a:Int) (b:Int) (c:ag) (d:Int) (e:Int) (f:Bool) (g:Int) (h:Int) (i:Bool) (j:Int) (q:Bool→ag→bO→Option R):bY v w ⟨a,b,c,d,e,f,g,h,i,j⟩ q=q true w ⟨a,b,x,d,e,f,g,h,i,j⟩:=by
 unfold bY rZ
 simp only[Json.eta]
 unfold Il at hx
 rw[Pu.Text_eq v hv,hx]
theorem t_3696_none {R:Type} {v:Json} (hv:Pu.Hb v) {w:ag} (hx:Il v w=none) (a:Int) (b:Int) (c:ag) (d:Int) (e:Int) (f:Bool) (g:Int) (h:Int) (i:Bool) (j:Int) (q:Bool→ag→bO→Option R):bY v w ⟨a,b,c,d,e,f,g,h,i,j⟩ q=q false w ⟨a,b, [],d,e,f,g,h,i,j⟩:=by
 unfold bY rZ
 simp only[Json.eta]
 unfold Il at hx
 rw[Pu.Text_eq v hv,hx]
theorem t_eb61_some {R:Type} {v:Json} (hv:Pu.Hb v) {w:ag} {x:Int} (hx:dQ v w=some x) (a:Int) (b:Int) (c:ag) (d:Int) (e:Int) (f:Bool) (g:Int) (h:Int) (i:Bool) (j:Int) (q:Bool→ag→bO→Option R):bD v w ⟨a,b,c,d,e,f,g,h,i,j⟩ q=q true w ⟨a,b,c,x,e,f,g,h,i,j⟩:=by
 unfold bD pa
 simp only[Json.eta]
 unfold dQ at hx
 rw[Pu.B4 v hv,hx]
theorem t_eb61_none {R:Type} {v:Json} (hv:Pu.Hb v) {w:ag} (hx:dQ v w=none) (a:Int) (b:Int) (c:ag) (d:Int) (e:Int) (f:Bool) (g:Int) (h:Int) (i:Bool) (j:Int) (q:Bool→ag→bO→Option R):bD v w ⟨a,b,c,d,e,f,g,h,i,j⟩ q=q false w ⟨a,b,c,0,e,f,g,h,i,j⟩:=by
 unfold bD pa
 simp only[Json.eta]
 unfold dQ at hx
 rw[Pu.B4 v hv,hx]
theorem t_537b_some {R:Type} {v:Json} (hv:Pu.Hb v) {w:ag} {x:Int} (hx:dQ v w=some x) (a:Int) (b:Int) (c:ag) (d:Int) (e:Int) (f:Bool) (g:Int) (h:Int) (i:Bool) (j:Int) (q:Bool→ag→bO→Option R):bE v w ⟨a,b,c,d,e,f,g,h,i,j⟩ q=q true w ⟨a,b,c,d,x,f,g,h,i,j⟩:=by
 unfold bE pb
 simp only[Json.eta]
 unfold dQ at hx
 rw[Pu.B4 v hv,hx]
theorem t_537b_none {R:Type} {v:Json} (hv:Pu.Hb v) {w:ag} (hx:dQ v w=none) (a:Int) (b:Int) (c:ag) (d:Int) (e:Int) (f:Bool) (g:Int) (h:Int) (i:Bool) (j:Int) (q:Bool→ag→bO→Option R):bE v w ⟨a,b,c,d,e,f,g,h,i,j⟩ q=q false w ⟨a,b,c,d,0,f,g,h,i,j⟩:=by
 unfold bE pb
 simp only[Json.eta]
 unfold dQ at hx
 rw[Pu.B4 v hv,hx]
theorem t_dff0_some {R:Type} {v:Json} (hv:Pu.Hb v) {w:ag} {x:Bool} (hx:pF v w=some x) (a:Int) (b:Int) (c:ag) (d:Int) (e:Int) (f:Bool) (g:Int) (h:Int) (i:Bool) (j:Int) (q:Bool→ag→bO→Option R):bZ v w ⟨a,b,c,d,e,f,g,h,i,j⟩ q=q true w ⟨a,b,c,d,e,x,g,h,i,j⟩:=by
 unfold bZ r4
 simp only[Json.eta]
 unfold pF at hx
 rw[Pu.Yj v hv,hx]
theorem t_dff0_none {R:Type} {v:Json} (hv:Pu.Hb v) {w:ag} (hx:pF v w=none) (a:Int) (b:Int) (c:ag) (d:Int) (e:Int) (f:Bool) (g:Int) (h:Int) (i:Bool) (j:Int) (q:Bool→ag→bO→Option R):bZ v w ⟨a,b,c,d,e,f,g,h,i,j⟩ q=q false w ⟨a,b,c,d,e,false,g,h,i,j⟩:=by
 unfold bZ r4
 simp only[Json.eta]
 unfold pF at hx
 rw[Pu.Yj v hv,hx]
theorem t_d444_some {R:Type} {v:Json} (hv:Pu.Hb v) {w:ag} {x:Int} (hx:dQ v w=some x) (a:Int) (b:Int) (c:ag) (d:Int) (e:Int) (f:Bool) (g:Int) (h:Int) (i:Bool) (j:Int) (q:Bool→ag→bO→Option R):bF v w ⟨a,b,c,d,e,f,g,h,i,j⟩ q=q true w ⟨a,b,c,d,e,f,x,h,i,j⟩:=by
 unfold bF pc
 simp only[Json.eta]
 unfold dQ at hx
 rw[Pu.B4 v hv,hx]
theorem t_d444_none {R:Type} {v:Json} (hv:Pu.Hb v) {w:ag} (hx:dQ v w=none) (a:Int) (b:Int) (c:ag) (d:Int) (e:Int) (f:Bool) (g:Int) (h:Int) (i:Bool) (j:Int) (q:Bool→ag→bO→Option R):bF v w ⟨a,b,c,d,e,f,g,h,i,j⟩ q=q false w ⟨a,b,c,d,e,f,0,h,i,j⟩:=by
 unfold bF pc
 simp only[Json.eta]
 unfold dQ at hx
 rw[Pu.B4 v hv,hx]
theorem t_7956_some {R:Type} {v:Json} (hv:Pu.Hb v) {w:ag} {x:Int} (hx:dQ v w=some x) (a:Int) (b:Int) (c:ag) (d:Int) (e:Int) (f:Bool) (g:Int) (h:Int) (i:Bool) (j:Int) (q:Bool→ag→bO→Option R):bG v w ⟨a,b,c,d,e,f,g,h,i,j⟩ q=q true w ⟨a,b,c,d,e,f,g,x,i,j⟩:=by
 unfold bG pd
 simp only[Json.eta]
 unfold dQ at hx
 rw[Pu.B4 v hv,hx]
theorem t_7956_none {R:Type} {v:Json} (hv:Pu.Hb v) {w:ag} (hx:dQ v w=none) (a:Int) (b:Int) (c:ag) (d:Int) (e:Int) (f:Bool) (g:Int) (h:Int) (i:Bool) (j:Int) (q:Bool→ag→bO→Option R):bG v w ⟨a,b,c,d,e,f,g,h,i,j⟩ q=q false w ⟨a,b,c,d,e,f,g,0,i,j⟩:=by
 unfold bG pd
 simp only[Json.eta]
 unfold dQ at hx
 rw[Pu.B4 v hv,hx]
theorem t_0c5b_some {R:Type} {v:Json} (hv:Pu.Hb v) {w:ag} {x:Bool} (hx:pF v w=some x) (a:Int) (b:Int) (c:ag) (d:Int) (e:Int) (f:Bool) (g:Int) (h:Int) (i:Bool) (j:Int) (q:Bool→ag→bO→Option R):ca v w ⟨a,b,c,d,e,f,g,h,i,j⟩ q=q true w ⟨a,b,c,d,e,f,g,h,x,j⟩:=by
 unfold ca r5
 simp only[Json.eta]
 unfold pF at hx
 rw[Pu.Yj v hv,hx]
theorem t_0c5b_none {R:Type} {v:Json} (hv:Pu.Hb v) {w:ag} (hx:pF v w=none) (a:Int) (b:Int) (c:ag) (d:Int) (e:Int) (f:Bool) (g:Int) (h:Int) (i:Bool) (j:Int) (q:Bool→ag→bO→Option R):ca v w ⟨a,b,c,d,e,f,g,h,i,j⟩ q=q false w ⟨a,b,c,d,e,f,g,h,false,j⟩:=by
 unfold ca r5
 simp only[Json.eta]
 unfold pF at hx
 rw[Pu.Yj v hv,hx]
theorem t_b21e_some {R:Type} {v:Json} (hv:Pu.Hb v) {w:ag} {x:Int} (hx:dQ v w=some x) (a:Int) (b:Int) (c:ag) (d:Int) (e:Int) (f:Bool) (g:Int) (h:Int) (i:Bool) (j:Int) (q:Bool→ag→bO→Option R):bH v w ⟨a,b,c,d,e,f,g,h,i,j⟩ q=q true w ⟨a,b,c,d,e,f,g,h,i,x⟩:=by
 unfold bH pe
 simp only[Json.eta]
 unfold dQ at hx
 rw[Pu.B4 v hv,hx]
theorem t_b21e_none {R:Type} {v:Json} (hv:Pu.Hb v) {w:ag} (hx:dQ v w=none) (a:Int) (b:Int) (c:ag) (d:Int) (e:Int) (f:Bool) (g:Int) (h:Int) (i:Bool) (j:Int) (q:Bool→ag→bO→Option R):bH v w ⟨a,b,c,d,e,f,g,h,i,j⟩ q=q false w ⟨a,b,c,d,e,f,g,h,i,0⟩:=by
 unfold bH pe
 simp only[Json.eta]
 unfold dQ at hx
 rw[Pu.B4 v hv,hx]
def outA {R:Type} (k:bO→Int→Option R):Except Int bO→Option R
 | .ok o=>k o 0
 | .error e=>k ⟨0,0, [],0,0,false,0,0,false,0⟩ e
theorem outA_ok {R:Type} (k:bO→Int→Option R) (o:bO):outA k (.ok o)=k o 0:=rfl
theorem Vq {R:Type} (k:bO→Int→Option R) (e:Int):outA k (.error e)=k ⟨0,0, [],0,0,false,0,0,false,0⟩ e:=rfl
theorem Mb {R:Type} (s:ag) (hs:s.length≤1099511627776) (k:bO→Int→Option R):br s k=outA k (takeA s):=by
 unfold br NN takeA
 rw[open_ok s hs]
 cases DT s with
 | none=>rfl
 | some t =>
 show cH t _=_
 rw[jparse_ok]
 by_cases he:(pE t).2.1=0
 rotate_left
 ·have c:((pE t).2.1 != 0)=true:=by simpa using he
  rw[c,cond_true]
  simp only[if_pos he,ne_eq,not_true_eq_false,not_false_eq_true,he,if_true]
  rfl
 have c:((pE t).2.1 != 0)=false:=by simpa using he
 rw[c,cond_false]
 have hv:=parse_jok he
 simp only[he,ne_eq,not_true_eq_false,if_false]
 generalize (pE t).1=v at hv ⊢
 simp only[Json.eta,c_sHeader,c_tBoot,c_sSerial,c_sOrder,c_sUpdate,c_tLive,c_tLast,c_tSeq,c_tDriving,c_tAccepted]
 unfold stateT
 cases h0:dQ v EN with
 | none =>
  rw[t_7ba2_none hv h0,Bool.not_false,cond_true]
  rfl
 | some x0 =>
 rw[t_7ba2_some hv h0,Bool.not_true,cond_false]
 cases h1:dQ v SK with
 | none =>
  rw[t_40a7_none hv h1,Bool.not_false,cond_true]
  rfl
 | some x1 =>
 rw[t_40a7_some hv h1,Bool.not_true,cond_false]
 cases h2:Il v EO with
 | none =>
  rw[t_3696_none hv h2,Bool.not_false,cond_true]
  rfl
 | some x2 =>
 rw[t_3696_some hv h2,Bool.not_true,cond_false]
 cases h3:dQ v KL with
 | none =>
  rw[t_eb61_none hv h3,Bool.not_false,cond_true]
  rfl
 | some x3 =>
 rw[t_eb61_some hv h3,Bool.not_true,cond_false]
 cases h4:dQ v EP with
 | none =>
  rw[t_537b_none hv h4,Bool.not_false,cond_true]
  rfl
 | some x4 =>
 rw[t_537b_some hv h4,Bool.not_true,cond_false]
 cases h5:pF v SL with
 | none =>
  rw[t_dff0_none hv h5,Bool.not_false,cond_true]
  rfl
 | some x5 =>
 rw[t_dff0_some hv h5,Bool.not_true,cond_false]
 cases h6:dQ v SM with
 | none =>
  rw[t_d444_none hv h6,Bool.not_false,cond_true]
  rfl
 | some x6 =>
 rw[t_d444_some hv h6,Bool.not_true,cond_false]
 cases h7:dQ v tSeq with
 | none =>
  rw[t_7956_none hv h7,Bool.not_false,cond_true]
  rfl
 | some x7 =>
 rw[t_7956_some hv h7,Bool.not_true,cond_false]
 cases h8:pF v zR with
 | none =>
  rw[t_0c5b_none hv h8,Bool.not_false,cond_true]
  rfl
 | some x8 =>
 rw[t_0c5b_some hv h8,Bool.not_true,cond_false]
 cases h9:dQ v uV with
 | none =>
  rw[t_b21e_none hv h9,Bool.not_false,cond_true]
  rfl
 | some x9 =>
 rw[t_b21e_some hv h9,Bool.not_true,cond_false]
 rw[Fz]
 simp only
 cases jO ⟨x0,x1,x2,x3,x4,x5,x6,x7,x8,x9⟩ <;> rfl
structure RawA (s:bO):Prop where
 header:yo s.header
 dc:yo s.dc
 order:yo s.order
 update:yo s.update
 node:yo s.node
 seq:yo s.seq
 accepted:yo s.accepted
 name:s.bc.length≤1099511627776
theorem RD {s:bO} (h:∀c∈Ty.cells .state s,Small 1048576 c):RawA s := {
 header:=nU.1 (h (.int .i64 s.header) (by simp[Ty.cells])).fg
 dc:=nU.1 (h (.int .i64 s.dc) (by simp[Ty.cells])).fg
 order:=nU.1 (h (.int .i64 s.order) (by simp[Ty.cells])).fg
 update:=nU.1 (h (.int .i64 s.update) (by simp[Ty.cells])).fg
 node:=nU.1 (h (.int .i64 s.node) (by simp[Ty.cells])).fg
 seq:=nU.1 (h (.int .i64 s.seq) (by simp[Ty.cells])).fg
 accepted:=nU.1 (h (.int .i64 s.accepted) (by simp[Ty.cells])).fg
 name:=by have:=(h (.str s.bc) (by simp[Ty.cells])).gK; omega }
theorem CW {R:Type} (c n:Int) (hc:yo c) (h0:0<n) (k:Int→Option R):bJ c n k=k (l7 c n):=pick_rawI c n hc h0 k
theorem fit09 {R:Type} (s:bO) (hs:RawA s) (k:bO→Option R):cb s k=k (Wu s):=by
 unfold cb QQ
 have p0:=Im s.seq 500000001
 have p1:=Io s.seq (n:=500000001) (by decide)
 have w:IntKind.i64.wrap (2*l7 s.seq 500000001)=2*l7 s.seq 500000001:=cK (by omega) (by omega)
 rw[CW _ _ hs.header (by omega),CW _ _ hs.dc (by omega),fit07 _ hs.name,CW _ _ hs.order (by omega),CW _ _ hs.update (by omega)]
 have e:Wu s=⟨l7 s.header 1000000001,l7 s.dc 1000000001,XW s.bc,l7 s.order 1000000001,l7 s.update 1000000001,s.live||s.bz,l7 s.node 1000000001,2*l7 s.seq 500000001,s.bz,l7 s.accepted 1000000001⟩:=rfl
 rw[e]
 cases s.live with
 | true =>
  rw[cond_true,CW _ _ hs.node (by omega),CW _ _ hs.seq (by omega),CW _ _ hs.accepted (by omega),w]
  rfl
 | false =>
  rw[cond_false,CW _ _ hs.node (by omega),CW _ _ hs.seq (by omega),CW _ _ hs.accepted (by omega),w]
  rfl
end Go.Proofs.YtidfokedcnhahaaGreatDoor
/-
 Functions of the program as pure Lean functions, and the ties; printed by wip/tools/emit.py.
-/
set_option maxRecDepth 100000
namespace Go.Proofs.YtidfokedcnhahaaGreatDoor
open Go Go.aq
variable {R:Type}
/-! ### humpyard/humpyardlaw09.StateBack -/
abbrev AJ (R:Type):Type:=aq.State→(Bool→Option R)→Option R
abbrev wa:List cY := [.agg [.int .i64, .int .i64, .str, .int .i64, .int .i64, .bool, .int .i64, .int .i64, .bool, .int .i64]]
abbrev wc:List aY := []
def AK (fn:AJ R):jR R wa wc:=fun x y k=>fn (⟨x.1.1,x.1.2.1,x.1.2.2.1,x.1.2.2.2.1,x.1.2.2.2.2.1,x.1.2.2.2.2.2.1,x.1.2.2.2.2.2.2.1,x.1.2.2.2.2.2.2.2.1,(t8 x.1).1,(t8 x.1).2.1⟩:aq.State) (fun q0=>k (.bool q0) [])
def Vr (fn:AJ R):=aC wa wc (AK fn)
section
variable (cb:qz R) (aX:k6 R) (bl:nZ R) (aE:fL R) (br:om R)
def JV:List (lC R) := [(38,true,(Bg cb av)),(37,true,(rq aX av)),(39,true,(wY bl av)),(41,true,(qY aE av)),(46,true,(xw br av))]
def CX (x1:aq.State) (k0:Bool→Option R):Option R :=
 aX (fun y2=>cb x1 (fun y3=>bl y3 (fun y4 y5=>br y4 (fun y6 y7=>bif y2 then (aE y3 (fun y8=>bif y8 then (bif (y5==0)then (bif (y7==0)then (k0 (y6.header==y3.header&&(y6.dc==y3.dc&&(y6.bc==y3.bc&&(y6.order==y3.order&&(y6.update==y3.update&&(y6.live==y3.live&&(y6.node==y3.node&&(y6.seq==y3.seq&&(y6.bz==y3.bz&&(y6.accepted==y3.accepted&&true)))))))))))else (k0 false))else (k0 false))else (k0 false)))else (k0 false)))))
theorem TL:dD (R:=R) tt (JV cb aX bl aE br) nJ false Tryz.f11 wa wc (AK (CX cb aX bl aE br)):=fun x y k=>by kernel_rfl
end
theorem R5:cq (R:=R) Tryz.prog (JV (R:=R) cb aX bl aE br) := .c (w9 R) <| .c (oA R) <| .c (sV R) <| .c (ox R) <| .c (uG R) <| .n
def uJ:AJ R:=fun x1 k0=>CX cb aX bl aE br x1 k0
theorem QR (R:Type):jQ Tryz.prog 11 (Vr (uJ (R:=R))):=bj TT mixed (R5 (R:=R)) rfl rfl rfl rfl bX (TL cb aX bl aE br)
/-! ### humpyard/humpyardlaw09.StateTaken -/
abbrev yS (R:Type):Type:=ag→aq.State→Int→ag→(Bool→Option R)→Option R
abbrev tV:List cY := [.leaf (.str), .agg [.int .i64, .int .i64, .str, .int .i64, .int .i64, .bool, .int .i64, .int .i64, .bool, .int .i64], .leaf (.int .i64), .leaf (.str)]
abbrev tW:List aY := []
def yT (fn:yS R):jR R tV tW:=fun x y k=>fn x.1 (⟨x.2.1.1,x.2.1.2.1,x.2.1.2.2.1,x.2.1.2.2.2.1,x.2.1.2.2.2.2.1,x.2.1.2.2.2.2.2.1,x.2.1.2.2.2.2.2.2.1,x.2.1.2.2.2.2.2.2.2.1,(t8 x.2.1).1,(t8 x.2.1).2.1⟩:aq.State) x.2.2.1 x.2.2.2.1 (fun q0=>k (.bool q0) [])
def TM (fn:yS R):=aC tV tW (yT fn)
abbrev s4 (R:Type):Type:=Nat→(List ag)→Int→Int→(Option R)→(Bool→Option R)→Option R
def n0:Hint := { live := [68,69,70],own := [],rows := [],cells := [],drop := [],out := [8] }
abbrev ja:Type:=(List ag)×Int×Int
def rB:ja→St:=fun d=>⟨U 68 (.sl .str d.1 (.own 0) :: .int .i64 d.2.1 :: .int .i64 d.2.2::U 40 ([])), [.tok]⟩
def s5 (K:Ex→St→Option R):Option R:=K (.exit 0) ⟨U 111 ([]), []⟩
def s6 (K:Ex→St→Option R) (q0:Bool):Option R:=K (.ret) ⟨U 8 (.bool q0::U 102 ([])), []⟩
abbrev k7:List cY:=PU 68 (.leaf (.Ye .str 0) :: .leaf (.int .i64) :: .leaf (.int .i64)::PU 40 ([]))
abbrev k8:List aY := [.tok]
def CY (x:cY.cC k7) (y:aY.cC k8):Nat:=(List.length ((t8 (t8 (t8 (t8 (t8 (t8 (t8 (t8 x)))))))).2.2.2.2.1)+Int.natAbs ((t8 (t8 (t8 (t8 (t8 (t8 (t8 (t8 x)))))))).2.2.2.2.2.1)+Int.natAbs ((t8 (t8 (t8 (t8 (t8 (t8 (t8 (t8 x)))))))).2.2.2.2.2.2.1)+64)
def N2 (x:cY.cC k7) (y:aY.cC k8):ja:=((t8 (t8 (t8 (t8 (t8 (t8 (t8 (t8 x)))))))).2.2.2.2.1,(t8 (t8 (t8 (t8 (t8 (t8 (t8 (t8 x)))))))).2.2.2.2.2.1,(t8 (t8 (t8 (t8 (t8 (t8 (t8 (t8 x)))))))).2.2.2.2.2.2.1)
def Bh (L:s4 R):D7 R k7 k8:=fun x y K=>L (CY x y) ((t8 (t8 (t8 (t8 (t8 (t8 (t8 (t8 x)))))))).2.2.2.2.1) ((t8 (t8 (t8 (t8 (t8 (t8 (t8 (t8 x)))))))).2.2.2.2.2.1) ((t8 (t8 (t8 (t8 (t8 (t8 (t8 (t8 x)))))))).2.2.2.2.2.2.1) (s5 K) (s6 K)
section
variable (cb:qz R) (aX:k6 R) (bJ:rA R) (bQ:nX R) (bl:nZ R) (aE:fL R) (br:om R) (cd:s4 R)
def lY:List (lC R) := [(38,true,(Bg cb av)),(37,true,(rq aX av)),(45,true,(CV bJ av)),(28,true,(A5 bQ av)),(39,true,(wY bl av)),(41,true,(qY aE av)),(46,true,(xw br av))]
def n7 (fb:(List ag)→Int→Int→Option R) (VS:List ag) (Xr:Int) (n9:Int) (e0:Option R) (e1:Bool→Option R):Option R :=
 bif (decide (n9<Xr))then (cx (decide ((0:Int)≤n9)&&decide (n9<VS.length)) (br (VS.getD n9.toNat (Ty.bR .str)) (fun An KV=>bif (KV != 0)then (bif (!(An.header==0&&(An.dc==0&&(An.bc==([]:ag)&&(An.order==0&&(An.update==0&&(An.live==false&&(An.node==0&&(An.seq==0&&(An.bz==false&&(An.accepted==0&&true)))))))))))then (e1 false)else (fb VS Xr (IntKind.i64.wrap (n9+1))))else (bl An (fun J4 Pt=>br J4 (fun Lg C2=>aE An (fun Yi=>bif (!Yi)then (e1 false)else (bif (Pt != 0)then (e1 false)else (bif (C2 != 0)then (e1 false)else (bif (!(Lg.header==An.header&&(Lg.dc==An.dc&&(Lg.bc==An.bc&&(Lg.order==An.order&&(Lg.update==An.update&&(Lg.live==An.live&&(Lg.node==An.node&&(Lg.seq==An.seq&&(Lg.bz==An.bz&&(Lg.accepted==An.accepted&&true)))))))))))then (e1 false)else (fb VS Xr (IntKind.i64.wrap (n9+1)))))))))))))else (e0)
def CZ (K:Ex→St→Option R) (rc:ja→Option R) (d:ja):Option R:=n7 bl aE br (fun z0 z1 z2=>rc (z0,z1,z2)) d.1 d.2.1 d.2.2 (s5 K) (s6 K)
def oX:Nat→Option (Hint×dE R):=fun i=>match i with
 | 8=>some (n0,(dR k7 k8 (Bh cd) lL))
 | _=>none
theorem Jd (K:Ex→St→Option R) (rc:St→Option R) (d:ja):roundOf tt (dx (lY cb aX bJ bQ bl aE br)) (oX cd) 0 ((aN (bm Tryz.f12)).getD 0 .skip) n0 (rB d) rc K=CZ bl aE br K (fun d=>rc (rB d)) d:=by kernel_rfl
def AL (x1:ag) (x2:aq.State) (x3:Int) (x4:ag) (k0:Bool→Option R):Option R :=
 aX (fun y5=>cb x2 (fun y6=>bl y6 (fun y7 y8=>bif (!y5)then (k0 false)else (bif (y8 != 0)then (k0 false)else (bif (decide ((y7.length:Int)<(9:Int)))then (k0 false)else (cx (decide ((0:Int)≤(IntKind.i64.wrap ((y7.length:Int) - 9)))&&decide ((IntKind.i64.wrap ((y7.length:Int) - 9))≤y7.length)) (cx (decide ((0:Int)≤(IntKind.i64.wrap ((y7.length:Int) - 9)))) (bJ x3 (IntKind.i64.wrap ((((y7.drop 0).take ((IntKind.i64.wrap ((y7.length:Int) - 9)).toNat - 0)).length:Int)+1)) (fun oc=>bQ x1 (fun uf=>cx (decide ((0:Int)≤oc)&&decide (oc≤((y7.drop 0).take ((IntKind.i64.wrap ((y7.length:Int) - 9)).toNat - 0)).length)) (cx (decide ((0:Int)≤oc)) (cx (decide (((((y7.drop 0).take ((IntKind.i64.wrap ((y7.length:Int) - 9)).toNat - 0)).drop 0).take (oc.toNat - 0)).length+x4.length≤9223372036854775807)) (cx (decide ((0:Int)≤(((y7.drop 0).take ((IntKind.i64.wrap ((y7.length:Int) - 9)).toNat - 0)).length:Int))&&decide ((((y7.drop 0).take ((IntKind.i64.wrap ((y7.length:Int) - 9)).toNat - 0)).length:Int)≤((y7.drop 0).take ((IntKind.i64.wrap ((y7.length:Int) - 9)).toNat - 0)).length)) (cx (decide ((0:Int)≤(min (IntKind.i64.wrap (oc+(x4.length:Int))) (((y7.drop 0).take ((IntKind.i64.wrap ((y7.length:Int) - 9)).toNat - 0)).length:Int)))&&decide ((min (IntKind.i64.wrap (oc+(x4.length:Int))) (((y7.drop 0).take ((IntKind.i64.wrap ((y7.length:Int) - 9)).toNat - 0)).length:Int))≤(((y7.drop 0).take ((IntKind.i64.wrap ((y7.length:Int) - 9)).toNat - 0)).length:Int))) (cx (decide ((((((y7.drop 0).take ((IntKind.i64.wrap ((y7.length:Int) - 9)).toNat - 0)).drop 0).take (oc.toNat - 0))++x4).length+((((y7.drop 0).take ((IntKind.i64.wrap ((y7.length:Int) - 9)).toNat - 0)).drop (min (IntKind.i64.wrap (oc+(x4.length:Int))) (((y7.drop 0).take ((IntKind.i64.wrap ((y7.length:Int) - 9)).toNat - 0)).length:Int)).toNat).take ((((y7.drop 0).take ((IntKind.i64.wrap ((y7.length:Int) - 9)).toNat - 0)).length:Int).toNat - (min (IntKind.i64.wrap (oc+(x4.length:Int))) (((y7.drop 0).take ((IntKind.i64.wrap ((y7.length:Int) - 9)).toNat - 0)).length:Int)).toNat)).length≤9223372036854775807)) (bQ ((((((y7.drop 0).take ((IntKind.i64.wrap ((y7.length:Int) - 9)).toNat - 0)).drop 0).take (oc.toNat - 0))++x4)++((((y7.drop 0).take ((IntKind.i64.wrap ((y7.length:Int) - 9)).toNat - 0)).drop (min (IntKind.i64.wrap (oc+(x4.length:Int))) (((y7.drop 0).take ((IntKind.i64.wrap ((y7.length:Int) - 9)).toNat - 0)).length:Int)).toNat).take ((((y7.drop 0).take ((IntKind.i64.wrap ((y7.length:Int) - 9)).toNat - 0)).length:Int).toNat - (min (IntKind.i64.wrap (oc+(x4.length:Int))) (((y7.drop 0).take ((IntKind.i64.wrap ((y7.length:Int) - 9)).toNat - 0)).length:Int)).toNat))) (fun za=>cd (List.length ([uf,za]:List ag)+Int.natAbs 2+Int.natAbs 0+64) ([uf,za]:List ag) 2 0 (k0 true) (fun y24=>k0 y24))))))))))))))))))
theorem R6:dD (R:=R) tt (lY cb aX bJ bQ bl aE br) (oX cd) false Tryz.f12 tV tW (yT (AL cb aX bJ bQ bl cd)):=fun x y k=>by kernel_rfl
end
theorem QS:cq (R:=R) Tryz.prog (lY (R:=R) cb aX bJ bQ bl aE br) := .c (w9 R) <| .c (oA R) <| .c (Ac R) <| .c (wX R) <| .c (sV R) <| .c (ox R) <| .c (uG R) <| .n
def cd:s4 R
 | 0,_,_,_,_,_=>none
 | n+1,jb,jf,jl,e0,e1=>n7 bl aE br (fun jb jf jl=>cd n jb jf jl e0 e1) jb jf jl e0 e1
def C0 (K:Ex→St→Option R) (n:Nat) (d:ja):Option R:=cd n d.1 d.2.1 d.2.2 (s5 K) (s6 K)
theorem Mc (other:dE R) (ho:kg tt (dx (lY (R:=R) cb aX bJ bQ bl aE br)) (oX (R:=R) cd) 0 ((aN (bm Tryz.f12)).getD 0 .skip) n0 other):kg tt (dx (lY (R:=R) cb aX bJ bQ bl aE br)) (oX (R:=R) cd) 0 ((aN (bm Tryz.f12)).getD 0 .skip) n0 (dR k7 k8 (Bh (cd)) other) :=
 ei (A:=C0) ho (gd rB (CZ bl aE br) (C0) (fun _ _=>by kernel_rfl) (Jd cb aX bJ bQ bl aE br cd) (fun _ _ _=>by kernel_rfl)) CY N2 (fun _ _=>by kernel_rfl) (fun _ _ _=>by kernel_rfl)
def s7:yS R:=fun x1 x2 x3 x4 k0=>AL cb aX bJ bQ bl cd x1 x2 x3 x4 k0
theorem N3 (R:Type):∀a∈aN (bm Tryz.f12),je tt (dx (lY (R:=R) cb aX bJ bQ bl aE br)) (oX (R:=R) cd) 0 a:=by
 refine gQ 1 (by kernel_rfl) fun i hi => ?_
 match i,hi with
 | 0,_=>exact dH (by kernel_rfl) (Mc _ fk)
 | n+1,hi=>omega
theorem O1 (R:Type):jQ Tryz.prog 12 (TM (s7 (R:=R))):=bj TT mixed (QS (R:=R)) rfl rfl rfl rfl (N3 R) (R6 cb aX bJ bQ bl aE br cd)
/-! ### humpyard/humpyardlaw09.StateChanged -/
abbrev vH (R:Type):Type:=aq.State→Int→Int→(Bool→Option R)→Option R
abbrev qA:List cY := [.agg [.int .i64, .int .i64, .str, .int .i64, .int .i64, .bool, .int .i64, .int .i64, .bool, .int .i64], .leaf (.int .i64), .leaf (.int .u8)]
abbrev qB:List aY := []
def vI (fn:vH R):jR R qA qB:=fun x y k=>fn (⟨x.1.1,x.1.2.1,x.1.2.2.1,x.1.2.2.2.1,x.1.2.2.2.2.1,x.1.2.2.2.2.2.1,x.1.2.2.2.2.2.2.1,x.1.2.2.2.2.2.2.2.1,(t8 x.1).1,(t8 x.1).2.1⟩:aq.State) x.2.1 x.2.2.1 (fun q0=>k (.bool q0) [])
def QT (fn:vH R):=aC qA qB (vI fn)
section
variable (cb:qz R) (aX:k6 R) (bJ:rA R) (bl:nZ R) (br:om R)
def FA:List (lC R) := [(38,true,(Bg cb av)),(37,true,(rq aX av)),(45,true,(CV bJ av)),(39,true,(wY bl av)),(46,true,(xw br av))]
def xa (x1:aq.State) (x2:Int) (x3:Int) (k0:Bool→Option R):Option R :=
 aX (fun y4=>cb x1 (fun y5=>bl y5 (fun y6 y7=>bif (!y4)then (k0 false)else (bif (y7 != 0)then (k0 false)else (bif (y6==([]:ag))then (k0 false)else (bJ x2 (y6.length:Int) (fun y9=>cx (decide ((0:Int)≤y9)&&decide (y9<y6.length)) (cx (decide (y9.toNat<(gR y6).length)) (cx (decide ((0:Int)≤y9)&&decide (y9<y6.length)) (cx (decide (y9.toNat<(gR y6).length)) (br (List.map (fun n:Int=>UInt8.ofNat n.toNat) ((gR y6).set y9.toNat (IntKind.u8.wrap ((BitVec.ofInt IntKind.u8.bits ((gR y6).getD y9.toNat (Ty.bR (.int .u8))) ^^^ BitVec.ofInt IntKind.u8.bits (IntKind.u8.wrap (1+(Int.tmod x3 255)))).toNat:Int))):ag) (fun oc uf=>cx (decide (y6.length+(List.map (fun n:Int=>UInt8.ofNat n.toNat) ([x3]:List Int):ag).length≤9223372036854775807)) (br (y6++(List.map (fun n:Int=>UInt8.ofNat n.toNat) ([x3]:List Int):ag)) (fun za FM=>bif (uf==60)then (bif (FM==60)then (k0 (oc.header==0&&(oc.dc==0&&(oc.bc==([]:ag)&&(oc.order==0&&(oc.update==0&&(oc.live==false&&(oc.node==0&&(oc.seq==0&&(oc.bz==false&&(oc.accepted==0&&true)))))))))))else (k0 false))else (k0 false)))))))))))))))
theorem O2:dD (R:=R) tt (FA cb aX bJ bl br) nJ false Tryz.f13 qA qB (vI (xa cb aX bJ bl br)):=fun x y k=>by kernel_rfl
end
theorem N4:cq (R:=R) Tryz.prog (FA (R:=R) cb aX bJ bl br) := .c (w9 R) <| .c (oA R) <| .c (Ac R) <| .c (sV R) <| .c (uG R) <| .n
def oY:vH R:=fun x1 x2 x3 k0=>xa cb aX bJ bl br x1 x2 x3 k0
theorem Md (R:Type):jQ Tryz.prog 13 (QT (oY (R:=R))):=bj TT mixed (N4 (R:=R)) rfl rfl rfl rfl bX (O2 cb aX bJ bl br)
/-! ### humpyard/humpyardlaw09.StateNewer -/
abbrev yU (R:Type):Type:=aq.State→aq.State→aq.State→(Bool→Option R)→Option R
abbrev tX:List cY := [.agg [.int .i64, .int .i64, .str, .int .i64, .int .i64, .bool, .int .i64, .int .i64, .bool, .int .i64], .agg [.int .i64, .int .i64, .str, .int .i64, .int .i64, .bool, .int .i64, .int .i64, .bool, .int .i64], .agg [.int .i64, .int .i64, .str, .int .i64, .int .i64, .bool, .int .i64, .int .i64, .bool, .int .i64]]
abbrev tY:List aY := []
def yV (fn:yU R):jR R tX tY:=fun x y k=>fn (⟨x.1.1,x.1.2.1,x.1.2.2.1,x.1.2.2.2.1,x.1.2.2.2.2.1,x.1.2.2.2.2.2.1,x.1.2.2.2.2.2.2.1,x.1.2.2.2.2.2.2.2.1,(t8 x.1).1,(t8 x.1).2.1⟩:aq.State) (⟨x.2.1.1,x.2.1.2.1,x.2.1.2.2.1,x.2.1.2.2.2.1,x.2.1.2.2.2.2.1,x.2.1.2.2.2.2.2.1,x.2.1.2.2.2.2.2.2.1,x.2.1.2.2.2.2.2.2.2.1,(t8 x.2.1).1,(t8 x.2.1).2.1⟩:aq.State) (⟨x.2.2.1.1,x.2.2.1.2.1,x.2.2.1.2.2.1,x.2.2.1.2.2.2.1,x.2.2.1.2.2.2.2.1,x.2.2.1.2.2.2.2.2.1,x.2.2.1.2.2.2.2.2.2.1,x.2.2.1.2.2.2.2.2.2.2.1,(t8 x.2.2.1).1,(t8 x.2.2.1).2.1⟩:aq.State) (fun q0=>k (.bool q0) [])
def TN (fn:yU R):=aC tX tY (yV fn)
section
variable (aX:k6 R) (cX:w8 R)
def Iq:List (lC R) := [(37,true,(rq aX av)),(43,true,(KO cX av))]
def AM (x1:aq.State) (x2:aq.State) (x3:aq.State) (k0:Bool→Option R):Option R :=
 aX (fun y4=>cX x1 x2 (fun y5=>cX x2 x1 (fun y6=>let j25:=fun (z7:Bool)=>bif (!y4)then (k0 false)else (cX x1 x1 (fun y8=>bif y8 then (k0 false)else (bif z7 then (bif y5 then (k0 false)else (bif y6 then (k0 false)else (bif (!z7)then (bif (y5==y6)then (k0 false)else (bif (!y5)then (k0 true)else (cX x2 x3 (fun FM=>bif (!FM)then (k0 true)else (cX x1 x3 (fun Gd=>k0 Gd))))))else (bif (!y5)then (k0 true)else (cX x2 x3 (fun An=>bif (!An)then (k0 true)else (cX x1 x3 (fun KV=>k0 KV))))))))else (bif (!z7)then (bif (y5==y6)then (k0 false)else (bif (!y5)then (k0 true)else (cX x2 x3 (fun Pt=>bif (!Pt)then (k0 true)else (cX x1 x3 (fun Lg=>k0 Lg))))))else (bif (!y5)then (k0 true)else (cX x2 x3 (fun Yi=>bif (!Yi)then (k0 true)else (cX x1 x3 (fun Si=>k0 Si))))))))); bif (x1.dc==x2.dc)then (j25 (x1.header==x2.header))else (j25 false))))
theorem R7:dD (R:=R) tt (Iq aX cX) nJ false Tryz.f14 tX tY (yV (AM aX cX)):=fun x y k=>by kernel_rfl
end
theorem QU:cq (R:=R) Tryz.prog (Iq (R:=R) aX cX) := .c (oA R) <| .c (Ma R) <| .n
def s8:yU R:=fun x1 x2 x3 k0=>AM aX cX x1 x2 x3 k0
theorem O3 (R:Type):jQ Tryz.prog 14 (TN (s8 (R:=R))):=bj TT mixed (QU (R:=R)) rfl rfl rfl rfl bX (R7 aX cX)
/-! ### humpyard/humpyardlaw09.StateForms -/
abbrev yW (R:Type):Type:=aq.State→Int→ag→(Bool→Option R)→Option R
abbrev tZ:List cY := [.agg [.int .i64, .int .i64, .str, .int .i64, .int .i64, .bool, .int .i64, .int .i64, .bool, .int .i64], .leaf (.int .i64), .leaf (.str)]
abbrev ua:List aY := []
def yX (fn:yW R):jR R tZ ua:=fun x y k=>fn (⟨x.1.1,x.1.2.1,x.1.2.2.1,x.1.2.2.2.1,x.1.2.2.2.2.1,x.1.2.2.2.2.2.1,x.1.2.2.2.2.2.2.1,x.1.2.2.2.2.2.2.2.1,(t8 x.1).1,(t8 x.1).2.1⟩:aq.State) x.2.1 x.2.2.1 (fun q0=>k (.bool q0) [])
def TO (fn:yW R):=aC tZ ua (yX fn)
abbrev rC (R:Type):Type:=Nat→Int→(List ag)→(List Json)→Int→aq.State→Json→(Int→(List ag)→(List Json)→aq.State→Json→Option R)→Option R
def mV:Hint := { live := [1,8,13,16,17,18],own := [],rows := [],cells := [],drop := [],out := [1,6,8,13,16,17] }
abbrev iA:Type:=Int×(List ag)×(List Json)×Int×aq.State×Json
def pG:iA→St:=fun d=>⟨.undef :: .int .i64 d.1::U 6 (.ptr 0 0::U 4 (.ptr 1 0::U 2 (.sl .str d.2.1 (.own 2) :: .sl .json d.2.2.1 (.own 3) :: .int .i64 d.2.2.2.1::U 150 ([])))), [.cells [.int .i64 d.2.2.2.2.1.header, .int .i64 d.2.2.2.2.1.dc, .str d.2.2.2.2.1.bc, .int .i64 d.2.2.2.2.1.order, .int .i64 d.2.2.2.2.1.update, .bool d.2.2.2.2.1.live, .int .i64 d.2.2.2.2.1.node, .int .i64 d.2.2.2.2.1.seq, .bool d.2.2.2.2.1.bz, .int .i64 d.2.2.2.2.1.accepted], .cells [.int .i64 d.2.2.2.2.2.kind, .int .i64 d.2.2.2.2.2.num.ao, .int .i64 d.2.2.2.2.2.num.exp, .str d.2.2.2.2.2.text, .sl .str d.2.2.2.2.2.names .no, .sl .json d.2.2.2.2.2.items .no], .tok, .tok]⟩
def rD (K:Ex→St→Option R) (q0:Int) (q1:List ag) (q2:List Json) (q3:aq.State) (q4:Json):Option R:=K (.exit 0) ⟨.undef :: .int .i64 q0::U 6 (.ptr 0 0::U 4 (.ptr 1 0::U 2 (.sl .str q1 (.own 2) :: .sl .json q2 (.own 3)::U 151 ([])))), [.cells [.int .i64 q3.header, .int .i64 q3.dc, .str q3.bc, .int .i64 q3.order, .int .i64 q3.update, .bool q3.live, .int .i64 q3.node, .int .i64 q3.seq, .bool q3.bz, .int .i64 q3.accepted], .cells [.int .i64 q4.kind, .int .i64 q4.num.ao, .int .i64 q4.num.exp, .str q4.text, .sl .str q4.names .no, .sl .json q4.items .no], .tok, .tok]⟩
abbrev j4:List cY := .leaf (.undef) :: .leaf (.int .i64)::PU 6 (.leaf (.ptr 0 0)::PU 4 (.leaf (.ptr 1 0)::PU 2 (.leaf (.Ye .str 2) :: .leaf (.Ye .json 3) :: .leaf (.int .i64)::PU 150 ([]))))
abbrev j7:List aY := [.cells [.int .i64, .int .i64, .str, .int .i64, .int .i64, .bool, .int .i64, .int .i64, .bool, .int .i64], .cells [.int .i64, .int .i64, .int .i64, .str, .sl .str, .sl .json], .tok, .tok]
def Bi (x:cY.cC j4) (y:aY.cC j7):Nat:=(Int.natAbs x.2.1+List.length ((t8 (t8 x)).1)+List.length ((t8 (t8 x)).2.1)+Int.natAbs ((t8 (t8 x)).2.2.1)+aq.State.fu (⟨y.1.1,y.1.2.1,y.1.2.2.1,y.1.2.2.2.1,y.1.2.2.2.2.1,y.1.2.2.2.2.2.1,y.1.2.2.2.2.2.2.1,y.1.2.2.2.2.2.2.2.1,(t8 y.1).1,(t8 y.1).2.1⟩:aq.State)+Json.fu (⟨y.2.1.1,⟨y.2.1.2.1,y.2.1.2.2.1⟩,y.2.1.2.2.2.1,y.2.1.2.2.2.2.1,y.2.1.2.2.2.2.2.1⟩:Json)+64)
def Me (x:cY.cC j4) (y:aY.cC j7):iA:=(x.2.1,(t8 (t8 x)).1,(t8 (t8 x)).2.1,(t8 (t8 x)).2.2.1,(⟨y.1.1,y.1.2.1,y.1.2.2.1,y.1.2.2.2.1,y.1.2.2.2.2.1,y.1.2.2.2.2.2.1,y.1.2.2.2.2.2.2.1,y.1.2.2.2.2.2.2.2.1,(t8 y.1).1,(t8 y.1).2.1⟩:aq.State),(⟨y.2.1.1,⟨y.2.1.2.1,y.2.1.2.2.1⟩,y.2.1.2.2.2.1,y.2.1.2.2.2.2.1,y.2.1.2.2.2.2.2.1⟩:Json))
def zS (L:rC R):D7 R j4 j7:=fun x y K=>L (Bi x y) x.2.1 ((t8 (t8 x)).1) ((t8 (t8 x)).2.1) ((t8 (t8 x)).2.2.1) (⟨y.1.1,y.1.2.1,y.1.2.2.1,y.1.2.2.2.1,y.1.2.2.2.2.1,y.1.2.2.2.2.2.1,y.1.2.2.2.2.2.2.1,y.1.2.2.2.2.2.2.2.1,(t8 y.1).1,(t8 y.1).2.1⟩:aq.State) (⟨y.2.1.1,⟨y.2.1.2.1,y.2.1.2.2.1⟩,y.2.1.2.2.2.1,y.2.1.2.2.2.2.1,y.2.1.2.2.2.2.2.1⟩:Json) (rD K)
section
variable (bf:ko R) (dK:uO R) (gb:Cp R) (cb:qz R) (aX:k6 R) (bJ:rA R) (cH:mh R) (dM:uU R) (db:nY R) (bQ:nX R) (bl:nZ R) (aE:fL R) (br:om R) (bW:rC R)
def lZ:List (lC R) := [(48,true,(pW bf av)),(36,true,(ME dK av)),(33,true,(Qn gb av)),(38,true,(Bg cb av)),(37,true,(rq aX av)),(45,true,(CV bJ av)),(32,true,(MU cH av)),(35,true,(Nl dM av)),(31,true,(Qj db av)),(28,true,(A5 bQ av)),(39,true,(wY bl av)),(41,true,(qY aE av)),(46,true,(xw br av))]
def mW (fb:Int→(List ag)→(List Json)→Int→aq.State→Json→Option R) (uP:Int) (ml:List ag) (wu:List Json) (Dk:Int) (Gh:aq.State) (Sr:Json) (e0:Int→(List ag)→(List Json)→aq.State→Json→Option R):Option R :=
 bif (decide (Dk≥(0:Int)))then (cx (decide ((0:Int)≤Dk)&&decide (Dk<Sr.names.length)) (cx (decide ((ml.length+1)*16≤140737488355328)) (cx (decide ((0:Int)≤Dk)&&decide (Dk<Sr.items.length)) (cx (decide ((wu.length+1)*88≤140737488355328)) (fb uP (ml++([(Sr.names.getD Dk.toNat (Ty.bR .str))]:List ag)) (wu++([(⟨(Sr.items.getD Dk.toNat (Ty.bR .json)).kind,⟨(Sr.items.getD Dk.toNat (Ty.bR .json)).num.ao,(Sr.items.getD Dk.toNat (Ty.bR .json)).num.exp⟩,(Sr.items.getD Dk.toNat (Ty.bR .json)).text,(Sr.items.getD Dk.toNat (Ty.bR .json)).names,(Sr.items.getD Dk.toNat (Ty.bR .json)).items⟩:Json)]:List Json)) (IntKind.i64.wrap (Dk - 1)) Gh (⟨Sr.kind,⟨Sr.num.ao,Sr.num.exp⟩,Sr.text,Sr.names,Sr.items⟩:Json))))))else (e0 uP ml wu Gh (⟨Sr.kind,⟨Sr.num.ao,Sr.num.exp⟩,Sr.text,Sr.names,Sr.items⟩:Json))
def Bj (K:Ex→St→Option R) (rc:iA→Option R) (d:iA):Option R:=mW (fun z0 z1 z2 z3 z4 z5=>rc (z0,z1,z2,z3,z4,z5)) d.1 d.2.1 d.2.2.1 d.2.2.2.1 d.2.2.2.2.1 d.2.2.2.2.2 (rD K)
def oZ:Nat→Option (Hint×dE R):=fun i=>match i with
 | 11=>some (mV,(dR j4 j7 (zS bW) lL))
 | _=>none
theorem Ir (K:Ex→St→Option R) (rc:St→Option R) (d:iA):roundOf tt (dx (lZ bf dK gb cb aX bJ cH dM db bQ bl aE br)) (oZ bW) 0 ((aN (bm Tryz.f15)).getD 0 .skip) mV (pG d) rc K=Bj K (fun d=>rc (pG d)) d:=by kernel_rfl
def AN (x1:aq.State) (x2:Int) (x3:ag) (k0:Bool→Option R):Option R :=
 aX (fun y4=>cb x1 (fun y5=>bl y5 (fun y6 y7=>db y6 (fun y8 y9=>cH y8 (fun oc uf za=>bif (!y4)then (k0 false)else (bif (y7 != 0)then (k0 false)else (bif (y9 != 0)then (k0 false)else (bif (uf != 0)then (k0 false)else (bif ((oc.names.length:Int) != 10)then (k0 false)else (bif ((oc.items.length:Int) != 10)then (k0 false)else (gb x3 (fun Gd=>cx (decide (1+Gd.length≤9223372036854775807)) (bf 1 (fun Ed=>bW (Int.natAbs x2+List.length ([(([120]:ag)++Gd)]:List ag)+List.length ([(⟨Ed.kind,⟨Ed.num.ao,Ed.num.exp⟩,Ed.text,Ed.names,Ed.items⟩:Json)]:List Json)+Int.natAbs 9+aq.State.fu y5+Json.fu (⟨oc.kind,⟨oc.num.ao,oc.num.exp⟩,oc.text,oc.names,oc.items⟩:Json)+64) x2 ([(([120]:ag)++Gd)]:List ag) ([(⟨Ed.kind,⟨Ed.num.ao,Ed.num.exp⟩,Ed.text,Ed.names,Ed.items⟩:Json)]:List Json) 9 y5 (⟨oc.kind,⟨oc.num.ao,oc.num.exp⟩,oc.text,oc.names,oc.items⟩:Json) (fun Yi Si y24 AU IX=>dK Si y24 (fun FB=>dM (⟨FB.kind,⟨FB.num.ao,FB.num.exp⟩,FB.text,FB.names,FB.items⟩:Json) (fun O7=>bQ O7 (fun WV=>br WV (fun OI XC=>bJ Yi 10 (fun HT=>cx (decide ((0:Int)≤HT)&&decide (HT≤IX.names.length)) (cx (decide ((0:Int)≤HT)) (cx (decide ((0+((IX.names.drop 0).take (HT.toNat - 0)).length)*16≤140737488355328)) (cx (decide ((0:Int)≤(IntKind.i64.wrap (HT+1)))&&decide ((IntKind.i64.wrap (HT+1))≤IX.names.length)) (cx (decide ((((IX.names.drop 0).take (HT.toNat - 0)).length+(IX.names.drop (IntKind.i64.wrap (HT+1)).toNat).length)*16≤140737488355328)) (cx (decide ((0:Int)≤HT)&&decide (HT≤IX.items.length)) (cx (decide ((0:Int)≤HT)) (cx (decide ((0+((IX.items.drop 0).take (HT.toNat - 0)).length)*88≤140737488355328)) (cx (decide ((0:Int)≤(IntKind.i64.wrap (HT+1)))&&decide ((IntKind.i64.wrap (HT+1))≤IX.items.length)) (cx (decide ((((IX.items.drop 0).take (HT.toNat - 0)).length+(IX.items.drop (IntKind.i64.wrap (HT+1)).toNat).length)*88≤140737488355328)) (dK (((IX.names.drop 0).take (HT.toNat - 0))++(IX.names.drop (IntKind.i64.wrap (HT+1)).toNat)) (((IX.items.drop 0).take (HT.toNat - 0))++(IX.items.drop (IntKind.i64.wrap (HT+1)).toNat)) (fun y33=>dM (⟨y33.kind,⟨y33.num.ao,y33.num.exp⟩,y33.text,y33.names,y33.items⟩:Json) (fun y34=>bQ y34 (fun y35=>br y35 (fun y36 y37=>bJ Yi 1000 (fun y38=>bif (XC==0)then (bif (OI.header==AU.header&&(OI.dc==AU.dc&&(OI.bc==AU.bc&&(OI.order==AU.order&&(OI.update==AU.update&&(OI.live==AU.live&&(OI.node==AU.node&&(OI.seq==AU.seq&&(OI.bz==AU.bz&&(OI.accepted==AU.accepted&&true))))))))))then (bif (y37==90)then (aE (⟨AU.header,AU.dc,AU.bc,AU.order,AU.update,false,AU.node,AU.seq,true,AU.accepted⟩:aq.State) (fun Zv=>bif (!Zv)then (aE (⟨AU.header,AU.dc,AU.bc,AU.order,AU.update,AU.live,AU.node,(IntKind.i64.wrap ((IntKind.i64.wrap (2*y38))+1)),AU.bz,AU.accepted⟩:aq.State) (fun y40=>k0 (!y40)))else (k0 false)))else (k0 false))else (k0 false))else (k0 false))))))))))))))))))))))))))))))))))))
theorem R8:dD (R:=R) tt (lZ bf dK gb cb aX bJ cH dM db bQ bl aE br) (oZ bW) false Tryz.f15 tZ ua (yX (AN bf dK gb cb aX bJ cH dM db bQ bl aE br bW)):=fun x y k=>by kernel_rfl
end
theorem QV:cq (R:=R) Tryz.prog (lZ (R:=R) bf dK gb cb aX bJ cH dM db bQ bl aE br) := .c (mv R) <| .c (Ob R) <| .c (Qp R) <| .c (w9 R) <| .c (oA R) <| .c (Ac R) <| .c (Oh R) <| .c (Oq R) <| .c (Qk R) <| .c (wX R) <| .c (sV R) <| .c (ox R) <| .c (uG R) <| .n
def bW:rC R
 | 0,_,_,_,_,_,_,_=>none
 | n+1,jb,jf,jl,uk,Ea,FJ,e0=>mW (fun jb jf jl uk Ea FJ=>bW n jb jf jl uk Ea FJ e0) jb jf jl uk Ea FJ e0
def Bk (K:Ex→St→Option R) (n:Nat) (d:iA):Option R:=bW n d.1 d.2.1 d.2.2.1 d.2.2.2.1 d.2.2.2.2.1 d.2.2.2.2.2 (rD K)
theorem KT (other:dE R) (ho:kg tt (dx (lZ (R:=R) bf dK gb cb aX bJ cH dM db bQ bl aE br)) (oZ (R:=R) bW) 0 ((aN (bm Tryz.f15)).getD 0 .skip) mV other):kg tt (dx (lZ (R:=R) bf dK gb cb aX bJ cH dM db bQ bl aE br)) (oZ (R:=R) bW) 0 ((aN (bm Tryz.f15)).getD 0 .skip) mV (dR j4 j7 (zS (bW)) other) :=
 ei (A:=Bk) ho (gd pG (Bj) (Bk) (fun _ _=>by kernel_rfl) (Ir bf dK gb cb aX bJ cH dM db bQ bl aE br bW) (fun _ _ _=>by kernel_rfl)) Bi Me (fun _ _=>by kernel_rfl) (fun _ _ _=>by kernel_rfl)
def s9:yW R:=fun x1 x2 x3 k0=>AN bf dK gb cb aX bJ cH dM db bQ bl aE br bW x1 x2 x3 k0
theorem N5 (R:Type):∀a∈aN (bm Tryz.f15),je tt (dx (lZ (R:=R) bf dK gb cb aX bJ cH dM db bQ bl aE br)) (oZ (R:=R) bW) 0 a:=by
 refine gQ 1 (by kernel_rfl) fun i hi => ?_
 match i,hi with
 | 0,_=>exact dH (by kernel_rfl) (KT _ fk)
 | n+1,hi=>omega
theorem O4 (R:Type):jQ Tryz.prog 15 (TO (s9 (R:=R))):=bj TT mixed (QV (R:=R)) rfl rfl rfl rfl (N5 R) (R8 bf dK gb cb aX bJ cH dM db bQ bl aE br bW)
end Go.Proofs.YtidfokedcnhahaaGreatDoor
/-
 Functions of the program as pure Lean functions, and the ties; printed by wip/tools/emit.py.
-/
set_option maxRecDepth 100000
namespace Go.Proofs.YtidfokedcnhahaaGreatDoor
open Go Go.aq
variable {R:Type}
/-! ### humpyard/humpyardlaw09.StateApart -/
abbrev yY (R:Type):Type:=aq.State→aq.State→(Bool→Option R)→Option R
abbrev ub:List cY := [.agg [.int .i64, .int .i64, .str, .int .i64, .int .i64, .bool, .int .i64, .int .i64, .bool, .int .i64], .agg [.int .i64, .int .i64, .str, .int .i64, .int .i64, .bool, .int .i64, .int .i64, .bool, .int .i64]]
abbrev uc:List aY := []
def yZ (fn:yY R):jR R ub uc:=fun x y k=>fn (⟨x.1.1,x.1.2.1,x.1.2.2.1,x.1.2.2.2.1,x.1.2.2.2.2.1,x.1.2.2.2.2.2.1,x.1.2.2.2.2.2.2.1,x.1.2.2.2.2.2.2.2.1,(t8 x.1).1,(t8 x.1).2.1⟩:aq.State) (⟨x.2.1.1,x.2.1.2.1,x.2.1.2.2.1,x.2.1.2.2.2.1,x.2.1.2.2.2.2.1,x.2.1.2.2.2.2.2.1,x.2.1.2.2.2.2.2.2.1,x.2.1.2.2.2.2.2.2.2.1,(t8 x.2.1).1,(t8 x.2.1).2.1⟩:aq.State) (fun q0=>k (.bool q0) [])
def TP (fn:yY R):=aC ub uc (yZ fn)
section
variable (cb:qz R) (aX:k6 R) (bl:nZ R)
def Iu:List (lC R) := [(38,true,(Bg cb av)),(37,true,(rq aX av)),(39,true,(wY bl av))]
def AO (x1:aq.State) (x2:aq.State) (k0:Bool→Option R):Option R :=
 aX (fun y3=>cb x1 (fun y4=>cb x2 (fun y5=>bl y4 (fun y6 y7=>bl y5 (fun y8 y9=>bif y3 then (bif (y7==0)then (bif (y9==0)then (k0 ((y6==y8)==(y4.header==y5.header&&(y4.dc==y5.dc&&(y4.bc==y5.bc&&(y4.order==y5.order&&(y4.update==y5.update&&(y4.live==y5.live&&(y4.node==y5.node&&(y4.seq==y5.seq&&(y4.bz==y5.bz&&(y4.accepted==y5.accepted&&true))))))))))))else (k0 false))else (k0 false))else (k0 false))))))
theorem R9:dD (R:=R) tt (Iu cb aX bl) nJ false Tryz.f16 ub uc (yZ (AO cb aX bl)):=fun x y k=>by kernel_rfl
end
theorem QW:cq (R:=R) Tryz.prog (Iu (R:=R) cb aX bl) := .c (w9 R) <| .c (oA R) <| .c (sV R) <| .n
def ta:yY R:=fun x1 x2 k0=>AO cb aX bl x1 x2 k0
theorem O5 (R:Type):jQ Tryz.prog 16 (TP (ta (R:=R))):=bj TT mixed (QW (R:=R)) rfl rfl rfl rfl bX (R9 cb aX bl)
end Go.Proofs.YtidfokedcnhahaaGreatDoor
set_option maxRecDepth 100000
namespace Go.Proofs.YtidfokedcnhahaaGreatDoor
open Go Go.aq Go.Lib
def sameA (a b:bO):Bool:=(a.header==b.header&&(a.dc==b.dc&&(a.bc==b.bc&&(a.order==b.order&&(a.update==b.update&&(a.live==b.live&&(a.node==b.node&&(a.seq==b.seq&&(a.bz==b.bz&&(a.accepted==b.accepted&&true))))))))))
theorem sameA_iff {a b:bO}:sameA a b=true↔a=b:=by
 obtain ⟨a1,a2,a3,a4,a5,a6,a7,a8,a9,a10⟩:=a
 obtain ⟨b1,b2,b3,b4,b5,b6,b7,b8,b9,b10⟩:=b
 simp[sameA]
theorem TQ (a:bO):sameA a a=true:=sameA_iff.2 rfl
theorem RE (a b:bO):(a.header==b.header&&(a.dc==b.dc&&(a.bc==b.bc&&(a.order==b.order&&(a.update==b.update&&(a.live==b.live&&(a.node==b.node&&(a.seq==b.seq&&(a.bz==b.bz&&(a.accepted==b.accepted&&true))))))))))=sameA a b:=rfl
theorem RF {s:bO} (h:jO s=true):(ew (cD (eF s))).length≤20009:=by
 have:=Hv (Bf h)
 rw[lX]
 omega
theorem QX {R:Type} {s:bO} (h:jO s=true) (k:ag→Int→Option R):bl s k=k (ew (cD (eF s))) 0:=by
 rw[layA_ok s,h,if_pos rfl]
theorem takeA_r {R:Type} {s:bO} (h:jO s=true) (k:bO→Int→Option R):br (ew (cD (eF s))) k=k s 0:=by
 rw[Mb _ (by have:=RF h; omega),Ws h,outA_ok]
theorem aaF {R:Type} {s:bO} (h:jO s=true) (k:Bool→Option R):aE s k=k true:=by rw[Fz,h]
def exA:bO:=⟨1,2, [118],3,4,true,5,6,true,7⟩
theorem Wv:jO exA=true:=by decide +kernel
theorem aaG:cD (eF exA) = [123,34,104,101,97,100,101,114,73,100,34,58,49,44,34,98,111,111,116,34,58,50,44,34,115,101,114,105,97,108,78,117,109,98,101,114,34,58,34,118,34,44,34,111,114,100,101,114,73,100,34,58,51,44,34,111,114,100,101,114,85,112,100,97,116,101,73,100,34,58,52,44,34,108,105,118,101,34,58,116,114,117,101,44,34,108,97,115,116,78,111,100,101,73,100,34,58,53,44,34,108,97,115,116,78,111,100,101,83,101,113,117,101,110,99,101,73,100,34,58,54,44,34,100,114,105,118,105,110,103,34,58,116,114,117,101,44,34,97,99,99,101,112,116,101,100,34,58,55,125]:=by kernel_rfl
theorem RG {R:Type} (k:Bool→Option R):aX k=k true:=by
 unfold aX KS
 have h0:jO ⟨0,0, [],0,0,false,0,0,false,0⟩=false:=by decide +kernel
 have hx:(⟨1,2, [118],3,4,true,5,6,true,7⟩:bO)=exA:=rfl
 have b0:((0:Int)==0)=true:=rfl
 have b1:((1:Int)==1)=true:=rfl
 have hn:lA ⟨5,1, [],0,0,false,0,0,false,0⟩ ⟨0,2, [],0,0,false,0,0,false,0⟩=false:=by decide +kernel
 have he:(exA.header==1&&(exA.dc==2&&(exA.bc==([118]:ag)&&(exA.order==3&&(exA.update==4&&(exA.live==true&&(exA.node==5&&(exA.seq==6&&(exA.bz==true&&(exA.accepted==7&&true))))))))))=true:=by decide +kernel
 rw[hx,QX Wv,takeA_r Wv,layA_ok ⟨0,0, [],0,0,false,0,0,false,0⟩,h0,if_neg (by decide),b0,cond_true]
 rw[←aaG,NZ _ (by rw[aaG]; decide),beq_self_eq_true,cond_true,aQ (show (((ew (cD (eF exA))).length:Int)>100) by rw[lX,aaG]; decide),cond_true,cond_true,he,cond_true,b1,cond_true,Xk,hn,Bool.not_false,cond_true]
 exact aaF Wv _
theorem aaH {R:Type} (s:bO) (hs:∀c∈Ty.cells .state s,Small 1048576 c) (k:Bool→Option R):uJ s k=k true:=by
 have hr:=Ew s
 unfold uJ CX
 have b0:((0:Int)==0)=true:=rfl
 rw[RG,fit09 s (RD hs),QX hr,takeA_r hr,cond_true,aaF hr,cond_true,b0,cond_true,cond_true,RE,TQ]
theorem XZ {R:Type} (a b:bO) (ha:∀c∈Ty.cells .state a,Small 1048576 c) (hb:∀c∈Ty.cells .state b,Small 1048576 c) (k:Bool→Option R):ta a b k=k true:=by
 have hx:=Ew a
 have hy:=Ew b
 unfold ta AO
 have b0:((0:Int)==0)=true:=rfl
 have hs:(ew (cD (eF (Wu a)))==ew (cD (eF (Wu b))))=sameA (Wu a) (Wu b):=by
  rw[Bool.eq_iff_iff,sameA_iff]
  constructor
  ·intro h; exact layA_inj hx hy (by simpa using h)
  ·intro h; rw[h]; simp
 have bb:∀x:Bool,(x==x)=true:=fun x=>by cases x <;> rfl
 rw[RG,fit09 a (RD ha),fit09 b (RD hb),QX hx,QX hy,cond_true,b0,cond_true,cond_true,RE,hs,bb]
theorem Vs {R:Type} (s:bO) (at_ c:Int) (hs:∀c∈Ty.cells .state s,Small 1048576 c) (ha:Small 1048576 (.int .i64 at_)) (hc:Small 1048576 (.int .u8 c)) (k:Bool→Option R):oY s at_ c k=k true:=by
 have hr:=Ew s
 have hl:=RF hr
 have hl9:=lX (cD (eF (Wu s)))
 unfold oY xa
 have b0:((0:Int) != 0)=false:=rfl
 rw[RG,fit09 s (RD hs),QX hr,Bool.not_true,cond_false,b0,cond_false]
 generalize hT:cD (eF (Wu s))=T at *
 have jE:(ew T==([]:ag))=false:=by
  have hq:ew T ≠ []:=fun e=>by rw[e]at hl9; simp at hl9
  simpa using hq
 rw[jE,cond_false,CW _ _ (RC ha) (by omega)]
 have p1:=Im at_ (ew T).length
 have p2:=Io at_ (n:=((ew T).length:Int)) (by omega)
 obtain ⟨j,hj⟩:∃j:Nat,l7 at_ ((ew T).length:Int)=(j:Int):=⟨(l7 at_ ((ew T).length:Int)).toNat,by omega⟩
 rw[hj]at p1 p2 ⊢
 have hjl:j<(ew T).length:=by omega
 rw[ay (in_range hjl),ay (by rw[Int.toNat_natCast,Be,Er]; exact aQ hjl),ay (in_range hjl),ay (by rw[Int.toNat_natCast,Be,Er]; exact aQ hjl),Int.toNat_natCast,turned_text _ _ hjl _ hc.fg]
 have b6:((60:Int)==60)=true:=rfl
 rw[Mb _ (by rw[List.length_set]; omega),aaB (turned_shut T j _ hjl),Vq,bstr_one,ay (by simp; omega),Mb _ (by simp; omega),aaB (open_longer T _),Vq,b6,cond_true,cond_true]
 rfl
theorem X0 {R:Type} (a b c:bO) (k:Bool→Option R):s8 a b c k=k true:=by
 have hl:=newerA_law a b c
 unfold s8 AM
 simp only[RG,Xk,Bool.not_true,cond_false]
 generalize lA a a=n1 at hl ⊢
 generalize lA a b=n2 at hl ⊢
 generalize lA b a=n3 at hl ⊢
 generalize lA b c=n4 at hl ⊢
 generalize lA a c=n5 at hl ⊢
 generalize (a.dc==b.dc)=e1 at hl ⊢
 generalize (a.header==b.header)=e2 at hl ⊢
 revert hl
 cases n1 <;> cases n2 <;> cases n3 <;> cases n4 <;> cases n5 <;> cases e1 <;> cases e2 <;> first|(intro hl; rfl)|(intro hl; cases hl)
theorem takeA_err {s:ag} {e:Int} (h:takeA s = .error e):e≠0:=by
 unfold takeA at h
 split at h
 ·cases h; decide
 ·split at h
  ·rename_i hp; cases h; exact hp
  ·split at h
   ·split at h
    ·cases h
    ·cases h; decide
   ·cases h; decide
theorem takenA_loop {R:Type} (l:List ag) (hl:l.length≤1000) (hu:∀u∈l,u.length≤1099511627776) (e0:Option R) (e1:Bool→Option R):∀(F i:Nat),i≤l.length→l.length - i<F→cd F l (l.length:Int) (i:Int) e0 e1=e0:=by
 intro F
 induction F with
 | zero=>intro i _ hF; omega
 | succ F ih =>
  intro i hi hF
  show n7 _ _ _ (fun x0 x1 x2=>cd F x0 x1 x2 e0 e1) l (l.length:Int) (i:Int) e0 e1=_
  unfold n7
  by_cases h:i<l.length
  rotate_left
  ·rw[cu (show ¬(i:Int)<(l.length:Int) by omega),cond_false]
  have hg:l.getD (i:Int).toNat (Ty.bR .str)=l[i]:=getD_at h _
  rw[aQ (show (i:Int)<(l.length:Int) by omega),cond_true,ay (Ip i),hg,aaC h (by omega)]
  have ih:=ih (i+1) (by omega) (by omega)
  rw[Mb _ (hu _ (List.getElem_mem h))]
  cases ht:takeA l[i]with
  | error e =>
   have c:(e != 0)=true:=by simpa using takeA_err ht
   rw[Vq,c,cond_true]
   exact ih
  | ok o =>
   have hr:=takenA_right ht
   have b0:((0:Int) != 0)=false:=rfl
   rw[outA_ok,b0,cond_false,QX hr,takeA_r hr,aaF hr,Bool.not_true,cond_false,b0,cond_false,cond_false,RE,TQ,Bool.not_true,cond_false]
   exact ih
theorem X1 {R:Type} (s:ag) (o:bO) (at_:Int) (more:ag) (hs:Small 1048576 (.str s)) (ho:∀c∈Ty.cells .state o,Small 1048576 c) (ha:Small 1048576 (.int .i64 at_)) (hm:Small 1048576 (.str more)) (k:Bool→Option R):s7 s o at_ more k=k true:=by
 have hr:=Ew o
 have hl:=RF hr
 have hl9:=lX (cD (eF (Wu o)))
 have hs1:=hs.gK
 have hm1:=hm.gK
 unfold s7 AL
 have b0:((0:Int) != 0)=false:=rfl
 rw[RG,fit09 o (RD ho),QX hr,Bool.not_true,cond_false,b0,cond_false]
 generalize hT:cD (eF (Wu o))=T at *
 rw[cu (show ¬((ew T).length:Int)<9 by omega),cond_false]
 have hW:IntKind.i64.wrap (((ew T).length:Int) - 9)=(T.length:Int):=by rw[cK (by omega) (by omega)]; omega
 have hT2:((ew T).drop 0).take ((T.length:Int).toNat - 0)=T:=by
  rw[List.drop_zero,Int.toNat_natCast,Nat.sub_zero]
  unfold ew
  simp
 simp only[hW,hT2]
 rw[ay (by rw[aQ (by omega),aQ (by omega)]; rfl),ay (aQ (by omega)),cK (n:=(T.length:Int)+1) (by omega) (by omega),CW _ _ (RC ha) (by omega),NZ s (by omega)]
 have p1:=Im at_ ((T.length:Int)+1)
 have p2:=Io at_ (n:=(T.length:Int)+1) (by omega)
 obtain ⟨j,hj⟩:∃j:Nat,l7 at_ ((T.length:Int)+1)=(j:Int):=⟨(l7 at_ ((T.length:Int)+1)).toNat,by omega⟩
 rw[hj]at p1 p2 ⊢
 have hw:IntKind.i64.wrap ((j:Int)+(more.length:Int))=(j:Int)+(more.length:Int):=cK (by omega) (by omega)
 simp only[hw]
 iterate 6 rw[ay (by simp only[Bool.and_eq_true,decide_eq_true_eq,List.length_append,List.length_take,List.length_drop]; omega)]
 rw[NZ _ (by simp only[List.length_append,List.length_take,List.length_drop]; omega)]
 have key:∀(a b:ag) (F:Nat) (e1:Bool→Option R),a.length≤1099511627776→b.length≤1099511627776→2<F→cd F [a,b] 2 0 (k true) e1=k true:=fun a b F e1 h1 h2 hF=>takenA_loop [a,b] (by simp) (fun u hu=>by
  simp only[List.mem_cons,List.not_mem_nil,or_false]at hu
  rcases hu with rfl|rfl <;> assumption) (k true) e1 F 0 (by simp) (by simpa using hF)
 exact key _ _ _ _ (by rw[lX]; omega) (by rw[lX]; simp only[List.length_append,List.length_take,List.length_drop]; omega) (by simp only[List.length_cons,List.length_nil]; omega)
theorem mk_all:∀(ns:List ag) (xs:List Json) (a:List ag) (b:List Json),ns.length=xs.length→ns.Nodup→(∀n∈ns,n∉a)→Pu.mk ns xs a b=(a++ns,b++xs)
 | [], [],a,b,_,_,_=>by simp[Pu.mk]
 | n::ns,x::xs,a,b,hl,hd,ha=>by
  have hn:a.contains n=false:=by
   cases h:a.contains n with
   | false=>rfl
   | true=>exact (ha n (by simp) (by simpa using h)).elim
  rw[List.nodup_cons]at hd
  simp only[Pu.mk,hn,Bool.false_eq_true,if_false]
  rw[mk_all ns xs (a ++ [n]) (b ++ [x]) (by simpa using hl) hd.2 (fun m hm=>by
   simp only[List.mem_append,List.mem_singleton,not_or]
   exact ⟨ha m (by simp[hm]),fun e=>hd.1 (e▸hm)⟩)]
  simp
 | [],_::_,_,_,h,_,_=>by simp at h
 | _::_, [],_,_,h,_,_=>by simp at h
theorem Fields.O0 {ns:List ag} {is:List Json} (h:Fields ns is):Go.Proofs.YtidfokedcnhahaaGreatDoor.O0 (uI ns is)=true:=(Ht _ 1 h.rj (by have:=h.pl; omega)).1
theorem Fields.jok {ns:List ag} {is:List Json} (h:Fields ns is):∀y∈is,Pu.Hb y:=by
 have h1:=w3.1 h.O0
 exact NY is 2 (Wr h.right) h1.2.2.1
theorem makeF {R:Type} {ns:List ag} {is:List Json} (h:Fields ns is) (k:Json→Option R):dK ns is k=k (uI ns is):=by
 have h1:=w3.1 h.O0
 rw[Pu.make_eq ns is h1.1 h.jok,mk_all ns is [] [] h.len ((Fy _ _).1 h.uniq).2.1 (fun n _=>by simp)]
 rfl
theorem printF {R:Type} {ns:List ag} {is:List Json} (h:Fields ns is) (k:ag→Option R):dM (uI ns is) k=k (cD (uI ns is)) :=
 aak _ h.rj h.O0 (by have:=h.pl; omega) k
theorem open_s {R:Type} (t:ag) (h:(ew t).length≤1099511627776) (k:ag→Int→Option R):db (ew t) k=k t 0:=by
 rw[open_ok _ h,Rz]
theorem QY {α:Type} (l:List α) (j:Nat):((l.drop 0).take ((j:Int).toNat - 0))++(l.drop ((j:Int)+1).toNat)=l.eraseIdx j:=by
 rw[List.drop_zero,Int.toNat_natCast,Nat.sub_zero,List.eraseIdx_eq_take_drop_succ,show ((j:Int)+1).toNat=j+1 by omega]
theorem formsA_loop {R:Type} (v:Json) (hn:v.names.length≤1000) (hi:v.items.length=v.names.length) (o:bO) (out:Int) (e0:Int→List ag→List Json→bO→Json→Option R):∀(F n:Nat) (ns:List ag) (is:List Json),n≤v.names.length→n<F→ns.length+n≤1000→is.length+n≤1000 →
  bW F out ns is ((n:Int) - 1) o v e0=e0 out (ns++(v.names.take n).reverse) (is++(v.items.take n).reverse) o v:=by
 intro F
 induction F with
 | zero=>intro n _ _ _ h; omega
 | succ F ih =>
  intro n ns is h1 h2 h3 h4
  show mW (fun x0 x1 x2 x3 x4 x5=>bW F x0 x1 x2 x3 x4 x5 e0) out ns is ((n:Int) - 1) o v e0=_
  unfold mW
  cases n with
  | zero =>
   rw[cu (show ¬(((0:Nat):Int) - 1)≥0 by omega),cond_false]
   simp[Json.eta]
  | succ n =>
   have e:(((n+1:Nat):Int) - 1)=(n:Int):=by omega
   have hg:v.names.getD (n:Int).toNat (Ty.bR .str)=v.names[n]:=getD_at (by omega) _
   have hg2:v.items.getD (n:Int).toNat (Ty.bR .json)=v.items[n]:=getD_at (by omega) _
   have w:IntKind.i64.wrap ((n:Int) - 1)=(n:Int) - 1:=cK (by omega) (by omega)
   rw[e,aQ (show (n:Int)≥0 by omega),cond_true,ay (by rw[Bool.true_and]; exact aQ (by omega)),ay (aQ (by omega)),ay (by rw[Bool.true_and]; exact aQ (by omega)),ay (aQ (by omega)),hg,hg2,w]
   simp only[Json.eta]
   rw[ih n _ _ (by omega) (by omega) (by simp; omega) (by simp; omega),List.take_succ_eq_append_getElem (by omega),List.take_succ_eq_append_getElem (by omega)]
   simp only[List.reverse_append,List.reverse_cons,List.reverse_nil,List.nil_append,List.append_assoc,List.singleton_append,List.cons_append]
theorem parseA_s {R:Type} {f:bO} (h:jO f=true) (k:Json→Int→Int→Option R):cH (cD (eF f)) k=k (eF f) 0 0:=by
 rw[jparse_ok,QJ (Fx (Bf h)) (Hv (Bf h))]
theorem X2 {R:Type} (s:bO) (out:Int) (nm:ag) (hs:∀c∈Ty.cells .state s,Small 1048576 c) (hout:Small 1048576 (.int .i64 out)) (hm:Small 1048576 (.str nm)) (k:Bool→Option R):s9 s out nm k=k true:=by
 have hr:=Ew s
 have hm1:=hm.gK
 unfold s9 AN
 rw[RG,fit09 s (RD hs),QX hr]
 generalize Wu s=f at hr ⊢
 have hk:=Bf hr
 have hlen:=Hv hk
 have hl:=RF hr
 have b0:((0:Int) != 0)=false:=rfl
 have c1:(((eF f).names.length:Int) != 10)=false:=rfl
 have c2:(((eF f).items.length:Int) != 10)=false:=rfl
 rw[open_s _ (by omega),parseA_s hr,Bool.not_true,cond_false,b0,cond_false,cond_false,cond_false,c1,cond_false,c2,cond_false,fit07 nm (by omega),ay (aQ (by have:=(NX (Yr nm)).2; omega)),QL (by decide),Json.eta,Json.eta]
 have hL:∀(F:Nat) (e0:Int→List ag→List Json→bO→Json→Option R),10<F→bW F out [([120]:ag)++XW nm] [AI 1] 9 f (eF f) e0=e0 out (CT nm) (CU f) f (eF f):=fun F e0 hF =>
  formsA_loop (eF f) (by show lx.length≤1000; decide) rfl f out e0 F 10 [([120]:ag)++XW nm] [AI 1] (by show 10≤lx.length; decide) hF (by show 1+10≤1000; decide) (by show 1+10≤1000; decide)
 rw[hL _ _ (by omega)]
 have hF:=Xh hk nm
 have hp:=hF.pl
 rw[makeF hF,Json.eta,printF hF,NZ _ (by omega),Mb _ (by rw[lX]; omega),formA_take hr nm,outA_ok,CW _ _ (RC hout) (by omega)]
 have p1:=Im out 10
 have p2:=Io out (n:=10) (by omega)
 obtain ⟨j,hj⟩:∃j:Nat,l7 out 10=(j:Int):=⟨(l7 out 10).toNat,by omega⟩
 rw[hj]at p1 p2 ⊢
 have hN:(eF f).names.length=10:=rfl
 have hI:(eF f).items.length=10:=rfl
 have w:IntKind.i64.wrap ((j:Int)+1)=(j:Int)+1:=cK (by omega) (by omega)
 rw[w]
 iterate 10 rw[ay (by simp only[Bool.and_eq_true,decide_eq_true_eq,List.length_append,List.length_take,List.length_drop,hN,hI]; omega)]
 rw[QY,QY]
 have hE:=(JU hk).1.erase j
 have hq:=hE.pl
 have eN:(eF f).names=lx:=rfl
 have eI:(eF f).items=ly f:=rfl
 have q1:=Im out 1000
 have q2:=Io out (n:=1000) (by omega)
 have w1:IntKind.i64.wrap (2*l7 out 1000)=2*l7 out 1000:=cK (by omega) (by omega)
 have w2:IntKind.i64.wrap (2*l7 out 1000+1)=2*l7 out 1000+1:=cK (by omega) (by omega)
 have b1:((0:Int)==0)=true:=rfl
 have b9:((90:Int)==90)=true:=rfl
 have r1:jO ⟨f.header,f.dc,f.bc,f.order,f.update,false,f.node,f.seq,true,f.accepted⟩=false:=rightA_bad f
 have r2:jO ⟨f.header,f.dc,f.bc,f.order,f.update,f.live,f.node,2*l7 out 1000+1,f.bz,f.accepted⟩=false:=rightA_odd f _ q1
 rw[eN,eI,makeF hE,Json.eta,printF hE,NZ _ (by omega),Mb _ (by rw[lX]; omega),lessA_take hr j (by omega),Vq,CW _ _ (RC hout) (by omega),b1,cond_true,RE,TQ,cond_true,b9,cond_true,Fz,r1,Bool.not_false,cond_true,w1,w2,Fz,r2]
 rfl
end Go.Proofs.YtidfokedcnhahaaGreatDoor
end
