/-
  GA, part 7 of 10.
-/
import Derived.Lib.ValidLaws
import Derived.Lib.MapLaws
import Derived.Lib.TrimUEq
import Derived.Lib.RuneBytes
import Derived.KernelRfl
import Derived.Lib.ItoaMem
import Derived.Test.YtidfokedcnhahaaGreatDoorGAB6
set_option linter.unusedSimpArgs false
set_option linter.unnecessarySimpa false
set_option linter.unusedVariables false
set_option linter.unusedSectionVars false
noncomputable section
set_option maxRecDepth 100000
namespace Go.aq
open Go.Lib
def vr (c:Nat):Prop:=c<55296∨(57344≤c∧c≤1114111)
instance (c:Nat):Decidable (vr c):=inferInstanceAs (Decidable (_∨_))
def enc (c:Nat):ag:=encodeRune (c:Int)
theorem enc1 {c:Nat} (h:c<128):enc c = [UInt8.ofNat c]:=by
 unfold enc encodeRune encodeRuneZ
 rw[if_pos (by omega)]
 rfl
theorem enc2 {c:Nat} (h0:128≤c) (h:c<2048):enc c = [UInt8.ofNat (192+c / 64),UInt8.ofNat (128+c % 64)]:=by
 unfold enc encodeRune encodeRuneZ
 rw[if_neg (by omega),if_pos (by omega)]
 have e1:(192+(c:Int) / 64).toNat=192+c / 64:=by omega
 have e2:(128+(c:Int) % 64).toNat=128+c % 64:=by omega
 simp only[List.map_cons,List.map_nil,e1,e2]
theorem enc3 {c:Nat} (h0:2048≤c) (h:c<65536) (hv:vr c):enc c = [UInt8.ofNat (224+c / 4096),UInt8.ofNat (128+c / 64 % 64),UInt8.ofNat (128+c % 64)]:=by
 unfold vr at hv
 unfold enc encodeRune encodeRuneZ
 rw[if_neg (by omega),if_neg (by omega),if_pos (by omega)]
 have e1:(224+(c:Int) / 4096).toNat=224+c / 4096:=by omega
 have e2:(128+(c:Int) / 64 % 64).toNat=128+c / 64 % 64:=by omega
 have e3:(128+(c:Int) % 64).toNat=128+c % 64:=by omega
 simp only[List.map_cons,List.map_nil,e1,e2,e3]
theorem enc4 {c:Nat} (h0:65536≤c) (h:c<1114112):enc c = [UInt8.ofNat (240+c / 262144),UInt8.ofNat (128+c / 4096 % 64),UInt8.ofNat (128+c / 64 % 64),UInt8.ofNat (128+c % 64)]:=by
 unfold enc encodeRune encodeRuneZ
 rw[if_neg (by omega),if_neg (by omega),if_neg (by omega),if_pos (by omega)]
 have e1:(240+(c:Int) / 262144).toNat=240+c / 262144:=by omega
 have e2:(128+(c:Int) / 4096 % 64).toNat=128+c / 4096 % 64:=by omega
 have e3:(128+(c:Int) / 64 % 64).toNat=128+c / 64 % 64:=by omega
 have e4:(128+(c:Int) % 64).toNat=128+c % 64:=by omega
 simp only[List.map_cons,List.map_nil,e1,e2,e3,e4]
theorem gV (n:Nat) (h:n<256):(UInt8.ofNat n).toNat=n:=by
 simp only[UInt8.toNat_ofNat']
 omega
theorem vr_lt {c:Nat} (h:vr c):c<1114112:=by unfold vr at h; omega
theorem Lu {c:Nat} (hv:vr c):(c<128∧enc c = [UInt8.ofNat c])∨(128≤c∧c<2048∧enc c = [UInt8.ofNat (192+c / 64),UInt8.ofNat (128+c % 64)]) ∨
  (2048≤c∧c<65536∧enc c = [UInt8.ofNat (224+c / 4096),UInt8.ofNat (128+c / 64 % 64),UInt8.ofNat (128+c % 64)]) ∨
  (65536≤c∧enc c = [UInt8.ofNat (240+c / 262144),UInt8.ofNat (128+c / 4096 % 64),UInt8.ofNat (128+c / 64 % 64),UInt8.ofNat (128+c % 64)]):=by
 have:=vr_lt hv
 by_cases h1:c<128
 ·exact .inl ⟨h1,enc1 h1⟩
 by_cases h2:c<2048
 ·exact .inr (.inl ⟨by omega,h2,enc2 (by omega) h2⟩)
 by_cases h3:c<65536
 ·exact .inr (.inr (.inl ⟨by omega,h3,enc3 (by omega) h3 hv⟩))
 ·exact .inr (.inr (.inr ⟨by omega,enc4 (by omega) this⟩))
theorem JF {c:Nat} (hv:vr c):1≤(enc c).length∧(enc c).length≤4:=by
 rcases Lu hv with ⟨_,e⟩|⟨_,_,e⟩|⟨_,_,e⟩|⟨_,e⟩ <;> rw[e] <;> simp
theorem UT {c:Nat} (hv:vr c) (t:ag):decodeL (enc c++t)=(c,(enc c).length):=by
 have jD:=vr_lt hv
 unfold vr at hv
 rw[decodeL_N]
 rcases Lu hv with ⟨h1,e⟩|⟨h0,h1,e⟩|⟨h0,h1,e⟩|⟨h0,e⟩ <;> rw[e]
 ·simp only[List.cons_append,List.getD_cons_zero,gV c (by omega)]
  exact decodeN_ascii _ _ _ _ _ h1
 ·simp only[List.cons_append,List.nil_append,List.getD_cons_zero,List.getD_cons_succ,gV (192+c / 64) (by omega),gV (128+c % 64) (by omega),List.length_cons]
  unfold decodeN
  rw[if_neg (by omega),if_pos ⟨by omega,by omega,by omega⟩,if_pos (by omega)]
  refine Prod.ext ?_ rfl
  show (192+c / 64) % 32*64+(128+c % 64) % 64=c
  omega
 ·simp only[List.cons_append,List.nil_append,List.getD_cons_zero,List.getD_cons_succ,gV (224+c / 4096) (by omega),gV (128+c / 64 % 64) (by omega),gV (128+c % 64) (by omega),List.length_cons]
  unfold decodeN
  have k:(224+c / 4096) % 16*4096+(128+c / 64 % 64) % 64*64+(128+c % 64) % 64=c:=by omega
  rw[if_neg (by omega),if_neg (by omega),if_pos ⟨by omega,⟨by omega,by omega⟩,by omega,by omega⟩,k,if_pos (by omega)]
  simp only[List.length_nil]
 ·simp only[List.cons_append,List.nil_append,List.getD_cons_zero,List.getD_cons_succ,gV (240+c / 262144) (by omega),gV (128+c / 4096 % 64) (by omega),gV (128+c / 64 % 64) (by omega),gV (128+c % 64) (by omega),List.length_cons]
  unfold decodeN
  have k:(240+c / 262144) % 8*262144+(128+c / 4096 % 64) % 64*4096+(128+c / 64 % 64) % 64*64+(128+c % 64) % 64=c:=by omega
  rw[if_neg (by omega),if_neg (by omega),if_neg (by omega),if_pos ⟨by omega,⟨by omega,by omega⟩,⟨by omega,by omega⟩,by omega,by omega⟩,k,if_pos (by omega)]
  simp only[List.length_nil]
def good (l:ag):Prop:=¬((decodeL l).1=65533∧(decodeL l).2=1)
instance (l:ag):Decidable (good l):=inferInstanceAs (Decidable (¬_))
theorem good_enc {c:Nat} (hv:vr c) (t:ag):good (enc c++t):=by
 unfold good
 rw[UT hv t]
 rintro ⟨h1,h2⟩
 simp only at h1 h2
 rw[h1]at h2
 rw[enc3 (by omega) (by omega) (by unfold vr; omega)]at h2
 cases h2
theorem decodeN_vr (n b0 b1 b2 b3:Nat) (h0:b0<256):vr (decodeN n b0 b1 b2 b3).1:=by
 unfold vr decodeN
 repeat' split
 all_goals simp only
 all_goals omega
theorem dec_vr (l:ag):vr (decodeL l).1:=by
 rw[decodeL_N]
 exact decodeN_vr _ _ _ _ _ (UInt8.toNat_lt _)
theorem dec_good {l:ag} (jE:l ≠ []) (h:good l):l=enc (decodeL l).1++l.drop (decodeL l).2∧(enc (decodeL l).1).length=(decodeL l).2:=by
 have h1:=encode_decode l jE h
 have h2:=decodeL_le l jE
 refine ⟨?_,?_⟩
 ·unfold enc
  rw[h1,List.take_append_drop]
 ·unfold enc
  rw[h1,List.length_take]
  omega
theorem W0 {l:ag} (jE:l ≠ []):fE l=if good l then fE (l.drop (decodeL l).2)else false:=by
 unfold fE
 rw[validD_step l jE]
 by_cases h:good l
 ·rw[if_pos h,if_neg (show ¬((decodeL l).1=65533∧(decodeL l).2=1)from h)]
 ·rw[if_neg h,if_pos (Decidable.not_not.1 h)]
theorem enc_ne {c:Nat} (hv:vr c) (t:ag):enc c++t ≠ []:=by
 have:=JF hv
 intro e
 have:=congrArg List.length e
 rw[List.length_append,List.length_nil]at this
 omega
theorem validS_enc {c:Nat} (hv:vr c) (t:ag):fE (enc c++t)=fE t:=by
 rw[W0 (enc_ne hv t),if_pos (good_enc hv t),UT hv t]
 simp
def fo (rs:List Nat):ag:=rs.flatMap enc
theorem W1:∀(rs:List Nat),(∀c∈rs,vr c)→∀t,fE (fo rs++t)=fE t
 | [],_,t=>rfl
 | c::rs,h,t=>by
  have:fo (c::rs)++t=enc c++(fo rs++t):=by simp[fo]
  rw[this,validS_enc (h c (by simp)),W1 rs (fun x hx=>h x (by simp[hx]))]
theorem W2:∀(n:Nat) (l:ag),l.length≤n→fE l=true→∃rs:List Nat,(∀c∈rs,vr c)∧l=fo rs
 | 0,l,hl,_=>⟨[],by simp,List.eq_nil_of_length_eq_zero (by omega)⟩
 | n+1,l,hl,h=>by
  by_cases jE:l = []
  ·exact ⟨[],by simp,jE⟩
  rw[W0 jE]at h
  split at h
  ·rename_i hg
   obtain ⟨h1,h2⟩:=dec_good jE hg
   have h3:=JF (dec_vr l)
   obtain ⟨rs,hr,e⟩:=W2 n (l.drop (decodeL l).2) (by rw[List.length_drop]; omega) h
   refine ⟨(decodeL l).1::rs,?_,?_⟩
   ·intro c hc
    rcases List.mem_cons.1 hc with rfl|hc
    ·exact dec_vr l
    ·exact hr c hc
   ·exact h1.trans ((congrArg (enc (decodeL l).1 ++ ·) e).trans (by simp[fo]))
  ·cases h
theorem Hp {l:ag}:fE l=true↔∃rs:List Nat,(∀c∈rs,vr c)∧l=fo rs:=by
 refine ⟨W2 l.length l (Nat.le_refl _),?_⟩
 rintro ⟨rs,hr,rfl⟩
 have:=W1 rs hr []
 rw[List.append_nil]at this
 rw[this]; rfl
theorem P1 {s t:ag} {i:Nat} (h:i<s.length):(s++t).getD i 0=s.getD i 0:=by
 simp[List.getD,List.getElem?_append_left h]
theorem W3 {s t:ag} {x:UInt8}:(s++x::t).getD s.length 0=x:=by
 simp[List.getD]
end Go.aq
set_option maxRecDepth 100000
namespace Go.Proofs.YtidfokedcnhahaaGreatDoor
open Go Go.aq
def yo (n:Int):Prop := -9223372036854775808≤n∧n≤9223372036854775807
theorem nU {n:Int}:IntKind.i64.has n↔yo n:=by
 unfold IntKind.has yo
 simp only[IntKind.min,IntKind.max,IntKind.bits,IntKind.signed]
 simp
theorem wrap32_id {n:Int} (h1:0≤n) (h2:n<1114112):IntKind.i32.wrap n=n:=by
 simp only[IntKind.wrap,IntKind.bits,IntKind.signed,IntKind.min,IntKind.max]
 simp
 omega
theorem encL_snoc (rs:List Nat) (c:Nat):fo (rs ++ [c])=fo rs++enc c:=by simp[fo]
theorem aQ {p:Prop} [Decidable p] (h:p):decide p=true:=decide_eq_true h
theorem cu {p:Prop} [Decidable p] (h:¬p):decide p=false:=decide_eq_false h
end Go.Proofs.YtidfokedcnhahaaGreatDoor
namespace Go.Proofs.YtidfokedcnhahaaGreatDoor.Pu
open Go Go.aq
theorem jok_mk {k m e:Int} {t:ag} {ns:List ag} {xs:List Json} (hk:yo k) (hm:yo m) (he:yo e) (ht:t.length≤1099511627776) (hn:ns.length≤1099511627776) (TR:∀s∈ns,s.length≤1099511627776) (hx:xs.length≤1099511627776) (hxs:∀y∈xs,Hb y) :
  Hb ⟨k,⟨m,e⟩,t,ns,xs⟩:=by
 intro c hc
 simp only[Ty.cells,List.mem_cons,List.not_mem_nil,or_false]at hc
 rcases hc with rfl|rfl|rfl|rfl|rfl|rfl
 ·exact .int (nU.2 hk)
 ·exact .int (nU.2 hm)
 ·exact .int (nU.2 he)
 ·exact .str ht
 ·exact .sl hn fun s hs v hv=>by
   simp only[Ty.cells,List.mem_singleton]at hv
   subst hv
   exact .str (TR s hs)
 ·exact .sl hx fun y hy v hv=>hxs y hy v hv
def mk:List ag→List Json→List ag→List Json→List ag×List Json
 | n::ns,x::xs,a,b=>if a.contains n then mk ns xs a b else mk ns xs (a ++ [n]) (b ++ [x])
 | [],_,a,b=>(a,b)
 | _::_, [],a,b=>(a,b)
theorem V9 {R:Type} (ns:List ag) (xs:List Json) (hx:xs.length≤ns.length) (hn:ns.length≤1099511627776) (hj:∀y∈xs,Hb y) (p q r:Int) (t:ag) (a b c:Int) (u:ag)
  (e0:Int→Int→Int→ag→Int→Int→Int→ag→List ag→List Json→Option R):∀(n i:Nat) (l:List ag) (m:List Json),i≤xs.length→xs.length - i<n→l.length=m.length→l.length≤i →
  dy n ns xs (xs.length:Int) (i:Int) p q r t a b c u l m e0=e0 p q r t a b c u (mk (ns.drop i) (xs.drop i) l m).1 (mk (ns.drop i) (xs.drop i) l m).2:=by
 intro n
 induction n with
 | zero=>intro i l m _ h; omega
 | succ n ih =>
  intro i l m hi hni hlm hli
  show xk _ _ (fun x1 x2 x3 x4 x5 x6 x7 x8 x9 x10 x11 x12 VS Xr=>dy n x1 x2 x3 x4 x5 x6 x7 x8 x9 x10 x11 x12 VS Xr e0) _ _ _ _ _ _ _ _ _ _ _ _ _ _ e0=_
  unfold xk
  by_cases h:i<xs.length
  ·have h1:decide ((i:Int)<(xs.length:Int))=true:=by simp; omega
   have h2:(decide ((0:Int)≤(i:Int))&&true)=true:=by simp
   have h2':(decide ((0:Int)≤(i:Int))&&decide ((i:Int)<ns.length))=true:=by simp; omega
   have hw:IntKind.i64.wrap ((i:Int)+1)=((i+1:Nat):Int):=by rw[cK (by omega) (by omega)]; omega
   have hg:xs.getD (i:Int).toNat (Ty.bR .json)=xs[i]:=getD_at h _
   have hg':ns.getD (i:Int).toNat (Ty.bR .str)=ns[i]:=getD_at (by omega) _
   have hr1:decide ((l.length+1)*16≤140737488355328)=true:=by simp; omega
   have hr2:decide ((m.length+1)*88≤140737488355328)=true:=by simp; omega
   rw[h1,cond_true,ay h2,ay h2',hg,hg',contains_eq l (by omega),Json.eta,hw]
   rw[List.drop_eq_getElem_cons h,List.drop_eq_getElem_cons (show i<ns.length by omega)]
   simp only[mk]
   cases hc:l.contains ns[i]with
   | true =>
    simp only[Bool.not_true,cond_false,if_true]
    exact ih (i+1) l m (by omega) (by omega) hlm (by omega)
   | false =>
    simp only[Bool.not_false,cond_true,Bool.false_eq_true,if_false]
    rw[ay h2',ay hr1,fresh_eq _ (hj _ (List.getElem_mem h)),ay hr2,Json.eta]
    exact ih (i+1) (l ++ [ns[i]]) (m ++ [xs[i]]) (by omega) (by omega) (by simp[hlm]) (by first|omega|(simp; done)|(simp; omega))
  ·have h1:decide ((i:Int)<(xs.length:Int))=false:=by simp; omega
   rw[h1,cond_false,List.drop_eq_nil_of_le (show xs.length≤i by omega)]
   have:∀ns:List ag,mk ns [] l m=(l,m):=fun ns=>by cases ns <;> rfl
   rw[this]
theorem make_eq {R:Type} (ns:List ag) (xs:List Json) (hn:ns.length≤1099511627776) (hj:∀y∈xs,Hb y) (k:Json→Option R) :
  dK ns xs k=k ⟨7,⟨0,0⟩, [],(mk ns xs [] []).1,(mk ns xs [] []).2⟩:=by
 unfold dK MF
 have hm:(min (xs.length:Int) (ns.length:Int)).toNat - 0=min xs.length ns.length:=by omega
 rw[ay (by first|omega|(simp; done)|(simp; omega)),ay (by first|omega|(simp; done)|(simp; omega)),hm,List.drop_zero]
 have hl:(xs.take (min xs.length ns.length)).length=min xs.length ns.length:=by simp
 refine (V9 ns (xs.take (min xs.length ns.length)) (by rw[hl]; omega) hn (fun y hy=>hj y (List.mem_of_mem_take hy)) 0 0 0 [] 7 0 0 [] _ _ 0 [] [] (by omega) (by first|omega|(simp; done)|(simp; omega)) rfl (by simp)).trans ?_
 have key:∀(ns:List ag) (xs:List Json) (a:List ag) (b:List Json),mk ns (xs.take (min xs.length ns.length)) a b=mk ns xs a b:=by
  intro ns
  induction ns with
  | nil=>intro xs a b; cases xs <;> simp[mk]
  | cons n ns ih =>
   intro xs a b
   cases xs with
   | nil=>simp
   | cons x xs =>
    have:min (x::xs).length (n::ns).length=min xs.length ns.length+1:=by simp only[List.length_cons]; omega
    rw[this,List.take_succ_cons]
    simp only[mk,ih]
 simp only[List.drop_zero,key]
theorem Hb.ao {x:Json} (h:Hb x):yo x.num.ao:=nU.1 (h (.int .i64 x.num.ao) (by simp[Ty.cells])).fg
theorem Hb.exp {x:Json} (h:Hb x):yo x.num.exp:=nU.1 (h (.int .i64 x.num.exp) (by simp[Ty.cells])).fg
def Nc:Nat→Int→Option Int
 | 0,n=>some n
 | k+1,n=>if -100000000000000000≤n∧n≤100000000000000000 then Nc k (n*10)else none
def To (d:fT):Bool:=if d.ao=0 then decide (d.exp=0)else (decide (Int.tmod d.ao 10≠0)&&(decide (-1000000000000000≤d.ao)&&decide (d.ao≤1000000000000000)))&&(decide (-9≤d.exp)&&decide (d.exp≤9))
def tq (d:fT):Option Int:=if To d=true∧0≤d.exp then Nc d.exp.toNat d.ao else none
theorem Hq {R:Type} (a b c:Int) (k:Bool→Option R):az a b c k=k (decide (a≤b)&&decide (b≤c)):=by
 unfold az mu
 cases decide (a≤b) <;> rfl
theorem right_eq {R:Type} (d:fT) (k:Bool→Option R):bS d k=k (To d):=by
 unfold bS jy To
 simp only[Hq]
 by_cases h:d.ao=0
 ·have h1:(d.ao==0)=true:=by simpa using h
  rw[h1,cond_true,if_pos h]
  rfl
 ·have h1:(d.ao==0)=false:=by simpa using h
  rw[h1,cond_false,if_neg h]
  by_cases hq:Int.tmod d.ao 10=0
  ·have h2:(Int.tmod d.ao 10 != 0)=false:=by simp[hq]
   rw[h2,cond_false]
   simp[hq]
  ·have h2:(Int.tmod d.ao 10 != 0)=true:=by simp[hq]
   rw[h2,cond_true]
   cases hw:(decide (-1000000000000000≤d.ao)&&decide (d.ao≤1000000000000000))with
   | true=>simp[hq]
   | false=>simp[hq]
theorem shift_loop {R:Type} (e0:Int→Option R) (e1:Int→Bool→Int→Option R) (f:Int→Bool→Option R) (h1:∀x,e1 0 false x=f 0 false) (h0:∀x,e0 x=f x true) (m:Nat) (hm:m≤9223372036854775806) :
  ∀(n i:Nat) (x:Int),i≤m→m - i<n → -1000000000000000000≤x→x≤1000000000000000000 →
  cy n x (m:Int) (i:Int) e0 e1=match Nc (m - i) x with|some y=>f y true|none=>f 0 false:=by
 intro n
 induction n with
 | zero=>intro i x _ h; omega
 | succ n ih =>
  intro i x hi hn hx1 hx2
  show o6 az (fun a b c=>cy n a b c e0 e1) _ _ _ e0 e1=_
  unfold o6
  by_cases h:i<m
  ·have c1:decide ((i:Int)<(m:Int))=true:=by simp; omega
   have hw:IntKind.i64.wrap ((i:Int)+1)=((i+1:Nat):Int):=by rw[cK (by omega) (by omega)]; omega
   have e:m - i=(m - (i+1))+1:=by omega
   rw[c1,cond_true,Hq,e]
   simp only[Nc]
   by_cases hb : -100000000000000000≤x∧x≤100000000000000000
   ·have hd:(decide (-100000000000000000≤x)&&decide (x≤100000000000000000))=true:=by simp; exact hb
    rw[hd,if_pos hb]
    simp only[Bool.not_true,cond_false,hw]
    rw[cK (by omega) (by omega)]
    exact ih (i+1) (x*10) (by omega) (by omega) (by omega) (by omega)
   ·have hd:(decide (-100000000000000000≤x)&&decide (x≤100000000000000000))=false:=by
     simp only[Bool.and_eq_false_imp,decide_eq_true_eq,decide_eq_false_iff_not]
     exact fun q1 q2=>hb ⟨q1,q2⟩
    rw[hd,if_neg hb]
    simp only[Bool.not_false,cond_true]
    exact h1 x
  ·have c1:decide ((i:Int)<(m:Int))=false:=by simp; omega
   have e:m - i=0:=by omega
   rw[c1,cond_false,e]
   exact h0 x
theorem VA {R:Type} (d:fT) (k:Int→Bool→Option R):mz d k=match tq d with|some n=>k n true|none=>k 0 false:=by
 unfold mz Kn
 rw[right_eq]
 cases hr:To d with
 | false =>
  have:tq d=none:=by unfold tq; rw[if_neg (by simp[hr])]
  rw[this]; rfl
 | true =>
  by_cases he:d.exp<0
  ·have:tq d=none:=by unfold tq; rw[if_neg (by omega)]
   have c:decide (d.exp<(0:Int))=true:=by simpa using he
   rw[this]
   simp only[Bool.not_true,cond_false,c,cond_true]
  ·have c:decide (d.exp<(0:Int))=false:=by simpa using he
   have hb : -1000000000000000≤d.ao∧d.ao≤1000000000000000∧d.exp≤9:=by
    unfold To at hr
    split at hr
    ·simp at hr; omega
    ·simp at hr; omega
   have e:tq d=Nc d.exp.toNat d.ao:=by unfold tq; rw[if_pos ⟨hr,by omega⟩]
   rw[e]
   simp only[Bool.not_true,cond_false,c]
   unfold iL B2
   rw[cK (by omega) (by omega)]
   have ec:d.exp - 0=((d.exp.toNat:Nat):Int):=by omega
   rw[ec]
   exact shift_loop _ _ (fun a b=>k a b) (fun x=>rfl) (fun x=>rfl) d.exp.toNat (by omega) _ 0 d.ao (by omega) (by omega) (by omega) (by omega)
def UU (x:Json):Option Int:=if x.kind=4 then tq x.num else none
theorem num_eq {R:Type} (x:Json) (k:Int→Bool→Option R):∃z:Int,sF x k=match UU x with|some n=>k n true|none=>k z false:=by
 unfold sF PW UU
 have eta:(⟨x.num.ao,x.num.exp⟩:fT)=x.num:=rfl
 simp only[VA]
 by_cases h:x.kind=4
 ·have h1:(x.kind==4)=true:=by simpa using h
  refine ⟨0,?_⟩
  rw[if_pos h]
  cases hd:tq x.num with
  | some n=>simp only[hd,cond_true,h1]
  | none=>simp only[hd,cond_false]
 ·have h1:(x.kind==4)=false:=by simpa using h
  refine ⟨(tq x.num).getD 0,?_⟩
  rw[if_neg h]
  cases hd:tq x.num with
  | some n=>simp only[hd,cond_true,h1,Option.getD_some]
  | none=>simp only[hd,cond_false,Option.getD_none]
def at7 (v:Json) (s:ag):Option Json:=if v.kind=7 then look s v.names v.items else none
theorem B4 {R:Type} (v:Json) (hv:Hb v) (s:ag) (k:Int→Bool→Option R):bP v s k=match (at7 v s).bind UU with|some n=>k n true|none=>k 0 false:=by
 unfold bP P0 gF yn
 simp only[Json.eta]
 rw[find_eq v hv]
 show (match at7 v s with|some x=>_|none=>_)=_
 cases at7 v s with
 | none=>rfl
 | some x =>
  simp only[Bool.not_true,cond_false,Option.bind_some]
  obtain ⟨z,hz⟩:=num_eq x (fun y5 y6=>bif y6 then (k y5 true)else (k 0 false))
  refine hz.trans ?_
  cases UU x <;> rfl
def textF (x:Json):Option ag:=if x.kind=5 then some x.text else none
theorem Text_eq {R:Type} (v:Json) (hv:Hb v) (s:ag) (k:ag→Bool→Option R):oT v s k=match (at7 v s).bind textF with|some n=>k n true|none=>k [] false:=by
 unfold oT M0 fa tE mi H4
 simp only[Json.eta]
 rw[find_eq v hv]
 show (match at7 v s with|some x=>_|none=>_)=_
 cases at7 v s with
 | none=>rfl
 | some x =>
  simp only[Bool.not_true,cond_false,Option.bind_some,textF]
  by_cases h:x.kind=5
  ·have h1:(x.kind==5)=true:=by simpa using h
   simp only[h1,cond_true,if_pos h]
  ·have h1:(x.kind==5)=false:=by simpa using h
   simp only[h1,cond_false,if_neg h]
def W4 (x:Json):Option Bool:=if x.kind=3 then some true else if x.kind=2 then some false else none
theorem flag_eq {R:Type} (x:Json) (k:Bool→Bool→Option R):oV x k=match W4 x with|some b=>k b true|none=>k false false:=by
 unfold oV M6 W4
 by_cases h:x.kind=3
 ·have h1:(x.kind==3)=true:=by simpa using h
  simp only[h1,cond_true,if_pos h]
 ·have h1:(x.kind==3)=false:=by simpa using h
  by_cases h':x.kind=2
  ·have h2:(x.kind==2)=true:=by simpa using h'
   simp only[h1,h2,cond_false,if_neg h,if_pos h']
  ·have h2:(x.kind==2)=false:=by simpa using h'
   simp only[h1,h2,cond_false,if_neg h,if_neg h']
theorem Yj {R:Type} (v:Json) (hv:Hb v) (s:ag) (k:Bool→Bool→Option R):gP v s k=match (at7 v s).bind W4 with|some n=>k n true|none=>k false false:=by
 unfold gP Nb fY wT
 simp only[Json.eta]
 rw[find_eq v hv]
 show (match at7 v s with|some x=>_|none=>_)=_
 cases at7 v s with
 | none=>rfl
 | some x =>
  simp only[Bool.not_true,cond_false,Option.bind_some,flag_eq]
  cases W4 x <;> rfl
end Go.Proofs.YtidfokedcnhahaaGreatDoor.Pu
/-
 Functions of the program as pure Lean functions, and the ties; printed by wip/tools/emit.py.
-/
set_option maxRecDepth 100000
namespace Go.Proofs.YtidfokedcnhahaaGreatDoor
open Go Go.aq
variable {R:Type}
/-! ### humpyard/humpyardref01.Make -/
abbrev Ko (R:Type):Type:=Int→Int→(fT→Bool→Option R)→Option R
abbrev Nd:List cY := [.leaf (.int .i64), .leaf (.int .i64)]
abbrev Nf:List aY := []
def SC (fn:Ko R):jR R Nd Nf:=fun x y k=>fn x.1 x.2.1 (fun q0 q1=>k (.tuple [.agg [.int .i64 q0.ao, .int .i64 q0.exp], .bool q1]) [])
def ref01_Make_s (fn:Ko R):=aC Nd Nf (SC fn)
abbrev B5 (R:Type):Type:=Nat→Int→Int→fT→(Int→Int→fT→Option R)→(Int→Int→Bool→fT→Option R)→Option R
def xu:Hint := { live := [0,1,4],own := [],rows := [],cells := [],drop := [],out := [0,1,4,5] }
abbrev ow:Type:=Int×Int×fT
def AD:ow→St:=fun d=>⟨.int .i64 d.1 :: .int .i64 d.2.1::U 2 (.ptr 0 0::U 32 ([])), [.cells [.int .i64 d.2.2.ao, .int .i64 d.2.2.exp]]⟩
def B6 (K:Ex→St→Option R) (q0:Int) (q1:Int) (q2:fT):Option R:=K (.exit 0) ⟨.int .i64 q0 :: .int .i64 q1::U 2 (.ptr 0 0::U 32 ([])), [.cells [.int .i64 q2.ao, .int .i64 q2.exp]]⟩
def B7 (K:Ex→St→Option R) (q0:Int) (q1:Int) (q2:Bool) (q3:fT):Option R:=K (.ret) ⟨.int .i64 q0 :: .int .i64 q1::U 2 (.ptr 0 0 :: .bool q2::U 31 ([])), [.cells [.int .i64 q3.ao, .int .i64 q3.exp]]⟩
abbrev sG:List cY := .leaf (.int .i64) :: .leaf (.int .i64)::PU 2 (.leaf (.ptr 0 0)::PU 32 ([]))
abbrev sH:List aY := [.cells [.int .i64, .int .i64]]
def Lv (x:cY.cC sG) (y:aY.cC sH):Nat:=(Int.natAbs x.1+Int.natAbs x.2.1+fT.fu (⟨y.1.1,y.1.2.1⟩:fT)+64)
def Wa (x:cY.cC sG) (y:aY.cC sH):ow:=(x.1,x.2.1,(⟨y.1.1,y.1.2.1⟩:fT))
def JG (L:B5 R):D7 R sG sH:=fun x y K=>L (Lv x y) x.1 x.2.1 (⟨y.1.1,y.1.2.1⟩:fT) (B6 K) (B7 K)
section
variable (cE:B5 R)
def jU (fb:Int→Int→fT→Option R) (x3:Int) (x4:Int) (x5:fT) (e0:Int→Int→fT→Option R) (e1:Int→Int→Bool→fT→Option R):Option R :=
 bif ((Int.tmod x3 10)==0)then (bif (decide (x4>(1099511627776:Int)))then (e1 (IntKind.i64.wrap (Int.tdiv x3 10)) x4 false (⟨0,0⟩:fT))else (fb (IntKind.i64.wrap (Int.tdiv x3 10)) (IntKind.i64.wrap (x4+1)) x5))else (e0 x3 x4 x5)
def Lw (K:Ex→St→Option R) (rc:ow→Option R) (d:ow):Option R:=jU (fun z0 z1 z2=>rc (z0,z1,z2)) d.1 d.2.1 d.2.2 (B6 K) (B7 K)
def B8:Nat→Option (Hint×dE R):=fun i=>match i with
 | 3=>some (xu,(dR sG sH (JG cE) lL))
 | _=>none
theorem RX (K:Ex→St→Option R) (rc:St→Option R) (d:ow):roundOf tt (dx []) (B8 cE) 0 ((aN (bm Tryz.f101)).getD 0 .skip) xu (AD d) rc K=Lw K (fun d=>rc (AD d)) d:=by kernel_rfl
def tJ (x1:Int) (x2:Int) (k0:fT→Bool→Option R):Option R :=
 bif (x1==0)then (k0 (⟨0,0⟩:fT) true)else (cE (Int.natAbs x1+Int.natAbs x2+fT.fu (⟨0,0⟩:fT)+64) x1 x2 (⟨0,0⟩:fT) (fun y6 y7 y8=>bif (decide (y6>(1000000000000000:Int)))then (k0 (⟨0,0⟩:fT) false)else (bif (decide (y6<(-1000000000000000:Int)))then (k0 (⟨0,0⟩:fT) false)else (bif (decide (y7>(9:Int)))then (k0 (⟨0,0⟩:fT) false)else (bif (decide (y7<(-9:Int)))then (k0 (⟨0,0⟩:fT) false)else (k0 (⟨y6,y7⟩:fT) true))))) (fun y9 oc uf za=>k0 za uf))
theorem ref01_Make_ok:dD (R:=R) tt [] (B8 cE) false Tryz.f101 Nd Nf (SC (tJ cE)):=fun x y k=>by kernel_rfl
end
def cE:B5 R
 | 0,_,_,_,_,_=>none
 | n+1,jb,jf,jl,e0,e1=>jU (fun jb jf jl=>cE n jb jf jl e0 e1) jb jf jl e0 e1
def Lx (K:Ex→St→Option R) (n:Nat) (d:ow):Option R:=cE n d.1 d.2.1 d.2.2 (B6 K) (B7 K)
theorem UW (other:dE R) (ho:kg tt (dx []) (B8 (R:=R) cE) 0 ((aN (bm Tryz.f101)).getD 0 .skip) xu other):kg tt (dx []) (B8 (R:=R) cE) 0 ((aN (bm Tryz.f101)).getD 0 .skip) xu (dR sG sH (JG (cE)) other) :=
 ei (A:=Lx) ho (gd AD (Lw) (Lx) (fun _ _=>by kernel_rfl) (RX cE) (fun _ _ _=>by kernel_rfl)) Lv Wa (fun _ _=>by kernel_rfl) (fun _ _ _=>by kernel_rfl)
def tK:Ko R:=fun x1 x2 k0=>tJ cE x1 x2 k0
theorem Wb (R:Type):∀a∈aN (bm Tryz.f101),je tt (dx []) (B8 (R:=R) cE) 0 a:=by
 refine gQ 1 (by kernel_rfl) fun i hi => ?_
 match i,hi with
 | 0,_=>exact dH (by kernel_rfl) (UW _ fk)
 | n+1,hi=>omega
theorem ref01_Make_S_ok (R:Type):jQ Tryz.prog 101 (ref01_Make_s (tK (R:=R))):=bj TT mixed .n rfl rfl rfl rfl (Wb R) (ref01_Make_ok cE)
end Go.Proofs.YtidfokedcnhahaaGreatDoor
/-
 Functions of the program as pure Lean functions, and the ties; printed by wip/tools/emit.py.
-/
set_option maxRecDepth 100000
namespace Go.Proofs.YtidfokedcnhahaaGreatDoor
open Go Go.aq
variable {R:Type}
/-! ### humpyard/humpyardref04.has -/
abbrev Hc (R:Type):Type:=(List ag)→ag→(Bool→Option R)→Option R
abbrev P2:List cY := [.leaf (.sl .str), .leaf (.str)]
abbrev P3:List aY := []
def UX (fn:Hc R):jR R P2 P3:=fun x y k=>fn x.1 x.2.1 (fun q0=>k (.bool q0) [])
def W5 (fn:Hc R):=aC P2 P3 (UX fn)
abbrev Ei (R:Type):Type:=Nat→(List ag)→ag→Int→(Option R)→(Bool→Option R)→Option R
def zZ:Hint := { live := [0,1,5],own := [],rows := [],cells := [],drop := [],out := [4] }
abbrev pL:Type:=(List ag)×ag×Int
def B9:pL→St:=fun d=>⟨.sl .str d.1 .no :: .str d.2.1::U 3 (.int .i64 d.2.2::U 12 ([])), []⟩
def Ej (K:Ex→St→Option R):Option R:=K (.exit 0) ⟨U 18 ([]), []⟩
def Ek (K:Ex→St→Option R) (q0:Bool):Option R:=K (.ret) ⟨U 4 (.bool q0::U 13 ([])), []⟩
abbrev uB:List cY := .leaf (.sl .str) :: .leaf (.str)::PU 3 (.leaf (.int .i64)::PU 12 ([]))
abbrev uC:List aY := []
def Ol (x:cY.cC uB) (y:aY.cC uC):Nat:=(List.length x.1+List.length x.2.1+Int.natAbs x.2.2.2.2.2.1+64)
def XJ (x:cY.cC uB) (y:aY.cC uC):pL:=(x.1,x.2.1,x.2.2.2.2.2.1)
def Ly (L:Ei R):D7 R uB uC:=fun x y K=>L (Ol x y) x.1 x.2.1 x.2.2.2.2.2.1 (Ej K) (Ek K)
section
variable (eM:Ei R)
def Om (fb:(List ag)→ag→Int→Option R) (x3:List ag) (x4:ag) (x5:Int) (e0:Option R) (e1:Bool→Option R):Option R :=
 bif (decide (x5<(x3.length:Int)))then (cx (decide ((0:Int)≤x5)&&decide (x5<x3.length)) (bif ((x3.getD x5.toNat (Ty.bR .str))==x4)then (e1 true)else (fb x3 x4 (IntKind.i64.wrap (x5+1)))))else (e0)
def On (K:Ex→St→Option R) (rc:pL→Option R) (d:pL):Option R:=Om (fun z0 z1 z2=>rc (z0,z1,z2)) d.1 d.2.1 d.2.2 (Ej K) (Ek K)
def E8:Nat→Option (Hint×dE R):=fun i=>match i with
 | 2=>some (zZ,(dR uB uC (Ly eM) lL))
 | _=>none
theorem Tp (K:Ex→St→Option R) (rc:St→Option R) (d:pL):roundOf tt (dx []) (E8 eM) 0 ((aN (bm Tryz.f154)).getD 0 .skip) zZ (B9 d) rc K=On K (fun d=>rc (B9 d)) d:=by kernel_rfl
def W6 (x1:List ag) (x2:ag) (k0:Bool→Option R):Option R :=
 eM (List.length x1+List.length x2+Int.natAbs 0+64) x1 x2 0 (k0 false) (fun y6=>k0 y6)
theorem ref04_has_ok:dD (R:=R) tt [] (E8 eM) false Tryz.f154 P2 P3 (UX (W6 eM)):=fun x y k=>by kernel_rfl
end
def eM:Ei R
 | 0,_,_,_,_,_=>none
 | n+1,jb,jf,jl,e0,e1=>Om (fun jb jf jl=>eM n jb jf jl e0 e1) jb jf jl e0 e1
def Oo (K:Ex→St→Option R) (n:Nat) (d:pL):Option R:=eM n d.1 d.2.1 d.2.2 (Ej K) (Ek K)
theorem Wc (other:dE R) (ho:kg tt (dx []) (E8 (R:=R) eM) 0 ((aN (bm Tryz.f154)).getD 0 .skip) zZ other):kg tt (dx []) (E8 (R:=R) eM) 0 ((aN (bm Tryz.f154)).getD 0 .skip) zZ (dR uB uC (Ly (eM)) other) :=
 ei (A:=Oo) ho (gd B9 (On) (Oo) (fun _ _=>by kernel_rfl) (Tp eM) (fun _ _ _=>by kernel_rfl)) Ol XJ (fun _ _=>by kernel_rfl) (fun _ _ _=>by kernel_rfl)
def iv:Hc R:=fun x1 x2 k0=>W6 eM x1 x2 k0
theorem XK (R:Type):∀a∈aN (bm Tryz.f154),je tt (dx []) (E8 (R:=R) eM) 0 a:=by
 refine gQ 1 (by kernel_rfl) fun i hi => ?_
 match i,hi with
 | 0,_=>exact dH (by kernel_rfl) (Wc _ fk)
 | n+1,hi=>omega
theorem ZP (R:Type):jQ Tryz.prog 154 (W5 (iv (R:=R))):=bj TT mixed .n rfl rfl rfl rfl (XK R) (ref04_has_ok eM)
end Go.Proofs.YtidfokedcnhahaaGreatDoor
/-
 Functions of the program as pure Lean functions, and the ties; printed by wip/tools/emit.py.
-/
set_option maxRecDepth 100000
namespace Go.Proofs.YtidfokedcnhahaaGreatDoor
open Go Go.aq
variable {R:Type}
/-! ### humpyard/quote.Quote -/
abbrev wU (R:Type):Type:=ag→(ag→Bool→Option R)→Option R
abbrev Kp:List cY := [.leaf (.str)]
abbrev Kq:List aY := []
def P4 (fn:wU R):jR R Kp Kq:=fun x y k=>fn x.1 (fun q0 q1=>k (.tuple [.str q0, .bool q1]) [])
def Kr (fn:wU R):=aC Kp Kq (P4 fn)
abbrev AE (R:Type):Type:=Nat→(List Int)→ag→Nat→((List Int)→Option R)→Option R
def v8:Hint := { live := [4,13],own := [],rows := [],cells := [],drop := [],out := [2,3,4] }
abbrev mO:Type:=(List Int)×ag×Nat
def yp:mO→St:=fun d=>⟨U 4 (.ptr 0 0::U 8 (.ptr 1 0::U 27 ([]))), [.mE (.sl (.int .u8) d.1 (.own 2)), .iter d.2.1 d.2.2, .tok]⟩
def AF (K:Ex→St→Option R) (q0:List Int):Option R:=K (.exit 0) ⟨U 4 (.ptr 0 0::U 36 ([])), [.mE (.sl (.int .u8) q0 (.own 1)), .tok]⟩
abbrev qp:List cY:=PU 4 (.leaf (.ptr 0 0)::PU 8 (.leaf (.ptr 1 0)::PU 27 ([])))
abbrev qq:List aY := [.mE (.Ye (.int .u8) 2), .iter, .tok]
def JH (x:cY.cC qp) (y:aY.cC qq):Nat:=(List.length y.1+List.length y.2.1.1+64)
def UY (x:cY.cC qp) (y:aY.cC qq):mO:=(y.1,y.2.1.1,y.2.1.2)
def H6 (L:AE R):D7 R qp qq:=fun x y K=>L (JH x y) y.1 y.2.1.1 y.2.1.2 (AF K)
section
variable (bU:se R) (aj:ez R) (ad:eA R) (fm:BO R) (ae:dd R) (ak:fp R) (cN:AE R)
def uS:List (lC R) := [(165,true,(ED bU av)),(126,false,(hQ ad (hP aj av))),(169,true,(Sp fm av)),(124,false,(fj ae av)),(170,false,(kD ak av)),(84,false,(MB R))]
def kL (fb:(List Int)→ag→Nat→Option R) (x4:List Int) (x5:ag) (x6:Nat) (e0:(List Int)→Option R):Option R :=
 bif decide (x6<x5.length)then (fm ((mn x5 x6).1:Int) (fun y7=>bif (y7 != 0)then (ad 92 x4 (fun y8=>ad y7 y8 (fun y9=>fb y9 x5 (x6+(mn x5 x6).2))))else (bif (decide (((mn x5 x6).1:Int)<(32:Int)))then (ae ([92,117,48,48]:ag) x4 (fun oc uf=>cx (decide ((0:Int)≤(Int.fdiv ((mn x5 x6).1:Int) (2 ^ (min 4 IntKind.i32.bits))))&&decide ((Int.fdiv ((mn x5 x6).1:Int) (2 ^ (min 4 IntKind.i32.bits)))<(16:Int))) (ad ((([48,49,50,51,52,53,54,55,56,57,97,98,99,100,101,102]:ag).getD ((Int.fdiv ((mn x5 x6).1:Int) (2 ^ (min 4 IntKind.i32.bits))).toNat) 0).toNat:Int) uf (fun za=>cx (decide ((0:Int)≤(IntKind.i32.wrap ((BitVec.ofInt IntKind.i32.bits ((mn x5 x6).1:Int) &&& BitVec.ofInt IntKind.i32.bits 15).toNat:Int)))&&decide ((IntKind.i32.wrap ((BitVec.ofInt IntKind.i32.bits ((mn x5 x6).1:Int) &&& BitVec.ofInt IntKind.i32.bits 15).toNat:Int))<(16:Int))) (ad ((([48,49,50,51,52,53,54,55,56,57,97,98,99,100,101,102]:ag).getD ((IntKind.i32.wrap ((BitVec.ofInt IntKind.i32.bits ((mn x5 x6).1:Int) &&& BitVec.ofInt IntKind.i32.bits 15).toNat:Int)).toNat) 0).toNat:Int) za (fun FM=>fb FM x5 (x6+(mn x5 x6).2)))))))else (ak ((mn x5 x6).1:Int) x4 (fun Gd Ed=>fb Ed x5 (x6+(mn x5 x6).2))))))else (e0 x4)
def JI (K:Ex→St→Option R) (rc:mO→Option R) (d:mO):Option R:=kL ad fm ae ak (fun z0 z1 z2=>rc (z0,z1,z2)) d.1 d.2.1 d.2.2 (AF K)
def zJ:Nat→Option (Hint×dE R):=fun i=>match i with
 | 6=>some (v8,(dR qp qq (H6 cN) lL))
 | _=>none
theorem P5 (K:Ex→St→Option R) (rc:St→Option R) (d:mO):roundOf tt (dx (uS bU aj ad fm ae ak)) (zJ cN) 0 ((aN (bm Tryz.f123)).getD 0 .skip) v8 (yp d) rc K=JI ad fm ae ak K (fun d=>rc (yp d)) d:=by kernel_rfl
def uT (x1:ag) (k0:ag→Bool→Option R):Option R :=
 bU x1 (fun y2=>bif (!y2)then (k0 ([]:ag) false)else (aj 34 (fun y3=>cN (List.length y3+List.length x1+64) y3 x1 0 (fun An=>ad 34 An (fun KV=>k0 (wh KV) true)))))
theorem ZQ:dD (R:=R) tt (uS bU aj ad fm ae ak) (zJ cN) false Tryz.f123 Kp Kq (P4 (uT bU aj ad cN)):=fun x y k=>by kernel_rfl
end
theorem XL:cq (R:=R) Tryz.prog (uS (R:=R) bU aj ad fm ae ak) := .c (Eb R) <| .f (jr R _ (jq R _ (fA _))) rfl <| .c (V3 R) <| .d (fZ R) rfl <| .d (oj R) rfl <| .s (Yh) Ro <| .n
def cN:AE R
 | 0,_,_,_,_=>none
 | n+1,jb,jf,jl,e0=>kL ad fm ae ak (fun jb jf jl=>cN n jb jf jl e0) jb jf jl e0
def JJ (K:Ex→St→Option R) (n:Nat) (d:mO):Option R:=cN n d.1 d.2.1 d.2.2 (AF K)
theorem Tq (other:dE R) (ho:kg tt (dx (uS (R:=R) bU aj ad fm ae ak)) (zJ (R:=R) cN) 0 ((aN (bm Tryz.f123)).getD 0 .skip) v8 other):kg tt (dx (uS (R:=R) bU aj ad fm ae ak)) (zJ (R:=R) cN) 0 ((aN (bm Tryz.f123)).getD 0 .skip) v8 (dR qp qq (H6 (cN)) other) :=
 ei (A:=JJ) ho (gd yp (JI ad fm ae ak) (JJ) (fun _ _=>by kernel_rfl) (P5 bU aj ad fm ae ak cN) (fun _ _ _=>by kernel_rfl)) JH UY (fun _ _=>by kernel_rfl) (fun _ _ _=>by kernel_rfl)
def eE:wU R:=fun x1 k0=>uT bU aj ad cN x1 k0
theorem UZ (R:Type):∀a∈aN (bm Tryz.f123),je tt (dx (uS (R:=R) bU aj ad fm ae ak)) (zJ (R:=R) cN) 0 a:=by
 refine gQ 1 (by kernel_rfl) fun i hi => ?_
 match i,hi with
 | 0,_=>exact dH (by kernel_rfl) (Tq _ fk)
 | n+1,hi=>omega
theorem Lz (R:Type):jQ Tryz.prog 123 (Kr (eE (R:=R))):=bj TT mixed (XL (R:=R)) rfl rfl rfl rfl (UZ R) (ZQ bU aj ad fm ae ak cN)
/-! ### humpyard/json.write$1 -/
abbrev qs (R:Type):Type:=ag→((List Int)→Option R)→Option R
abbrev yq:List cY := [.leaf (.str), .leaf (.ptr 0 0)]
abbrev yr:List aY := [.cells [.ptr 1 0], .mE (.cv)]
def E9 (fn:qs R):jR R yq yr:=fun x y k=>fn x.1 (fun q0=>k (.tuple []) [.cells [.ptr 1 0], .mE (.sl (.int .u8) q0 (.own 2)), .tok])
def Gq (fn:qs R):=aC yq yr (E9 fn)
section
variable (eE:wU R) (ai:dT R)
def Gr:List (lC R) := [(123,true,(Kr eE av)),(124,false,(gO ai av))]
def Gs (x1:ag) (k0:(List Int)→Option R):Option R :=
 eE x1 (fun y2 y3=>ai y2 (fun y4 y5=>k0 y5))
theorem P6:dD (R:=R) tt (Gr eE ai) nJ false Tryz.f122 yq yr (E9 (Gs eE ai)):=fun x y k=>by kernel_rfl
end
theorem OO:cq (R:=R) Tryz.prog (Gr (R:=R) eE ai) := .c (Lz R) <| .d (iP R) rfl <| .n
def dL:qs R:=fun x1 k0=>Gs eE ai x1 k0
theorem Ng (R:Type):jQ Tryz.prog 122 (Gq (dL (R:=R))):=bj TT mixed (OO (R:=R)) rfl rfl rfl rfl bX (P6 eE ai)
/-! ### humpyard/json.write$1 -/
abbrev mA (R:Type):Type:=ag→(List Int)→((List Int)→Option R)→Option R
abbrev yt:List cY := [.leaf (.str), .leaf (.ptr 0 0)]
abbrev yu:List aY := [.cells [.ptr 1 0], .mE (.Ye (.int .u8) 2), .tok]
def Fa (fn:mA R):jR R yt yu:=fun x y k=>fn x.1 y.2.1 (fun q0=>k (.tuple []) [.cells [.ptr 1 0], .mE (.sl (.int .u8) q0 (.own 3)), .dead, .tok])
def yv (fn:mA R):=aC yt yu (Fa fn)
section
variable (eE:wU R) (ae:dd R)
def Gt:List (lC R) := [(123,true,(Kr eE av)),(124,false,(fj ae av))]
def Gu (x1:ag) (x2:List Int) (k0:(List Int)→Option R):Option R :=
 eE x1 (fun y3 y4=>ae y3 x2 (fun y5 y6=>k0 y6))
theorem P7:dD (R:=R) tt (Gt eE ae) nJ false Tryz.f122 yt yu (Fa (Gu eE ae)):=fun x y k=>by kernel_rfl
end
theorem OP:cq (R:=R) Tryz.prog (Gt (R:=R) eE ae) := .c (Lz R) <| .d (fZ R) rfl <| .n
def aL:mA R:=fun x1 x2 k0=>Gu eE ae x1 x2 k0
theorem Ca (R:Type):jQ Tryz.prog 122 (yv (aL (R:=R))):=bj TT mixed (OP (R:=R)) rfl rfl rfl rfl bX (P7 eE ae)
/-! ### humpyard/json.write -/
abbrev dj (R:Type):Type:=Json→(List Int)→((List Int)→Option R)→Option R
abbrev ig:List cY := [.leaf (.ptr 0 0), .agg [.int .i64, .int .i64, .int .i64, .str, .sl .str, .sl .json]]
abbrev ij:List aY := [.mE (.Ye (.int .u8) 1), .tok]
def eO (fn:dj R):jR R ig ij:=fun x y k=>fn (⟨x.2.1.1,⟨x.2.1.2.1,x.2.1.2.2.1⟩,x.2.1.2.2.2.1,x.2.1.2.2.2.2.1,x.2.1.2.2.2.2.2.1⟩:Json) y.1 (fun q0=>k (.tuple []) [.mE (.sl (.int .u8) q0 (.own 2)), .dead, .tok])
def JK (fn:dj R):=aC ig ij (eO fn)
abbrev sI (R:Type):Type:=Nat→ag→(List Json)→Int→Int→(List Int)→Json→(ag→(List Int)→Option R)→Option R
def nV:Hint := { live := [2,3,4,5,43,44,45],own := [],rows := [],cells := [],drop := [],out := [2,5] }
abbrev iV:Type:=ag×(List Json)×Int×Int×(List Int)×Json
def qQ:iV→St:=fun d=>⟨U 2 (.ptr 2 0 :: .ptr 3 0 :: .func 122 [] [.ptr 2 0] :: .str d.1::U 37 (.sl .json d.2.1 .no :: .int .i64 d.2.2.1 :: .int .i64 d.2.2.2.1::U 28 ([]))), [.mE (.sl (.int .u8) d.2.2.2.2.1 (.own 4)), .dead, .cells [.ptr 0 0], .cells [.int .i64 d.2.2.2.2.2.kind, .int .i64 d.2.2.2.2.2.num.ao, .int .i64 d.2.2.2.2.2.num.exp, .str d.2.2.2.2.2.text, .sl .str d.2.2.2.2.2.names .no, .sl .json d.2.2.2.2.2.items .no], .tok]⟩
def sJ (K:Ex→St→Option R) (q0:ag) (q1:List Int):Option R:=K (.exit 1) ⟨U 2 (.ptr 2 0::U 2 (.str q0::U 68 ([]))), [.mE (.sl (.int .u8) q1 (.own 3)), .dead, .cells [.ptr 0 0], .tok]⟩
abbrev kM:List cY:=PU 2 (.leaf (.ptr 2 0) :: .leaf (.ptr 3 0) :: .func 122 [] [.ptr 2 0] :: .leaf (.str)::PU 37 (.leaf (.sl .json) :: .leaf (.int .i64) :: .leaf (.int .i64)::PU 28 ([])))
abbrev kN:List aY := [.mE (.Ye (.int .u8) 4), .dead, .cells [.ptr 0 0], .cells [.int .i64, .int .i64, .int .i64, .str, .sl .str, .sl .json], .tok]
def Cb (x:cY.cC kM) (y:aY.cC kN):Nat:=(List.length x.2.2.2.2.2.1+List.length ((t8 (t8 (t8 (t8 (t8 x))))).2.2.2.1)+Int.natAbs ((t8 (t8 (t8 (t8 (t8 x))))).2.2.2.2.1)+Int.natAbs ((t8 (t8 (t8 (t8 (t8 x))))).2.2.2.2.2.1)+List.length y.1+Json.fu (⟨y.2.2.2.1.1,⟨y.2.2.2.1.2.1,y.2.2.2.1.2.2.1⟩,y.2.2.2.1.2.2.2.1,y.2.2.2.1.2.2.2.2.1,y.2.2.2.1.2.2.2.2.2.1⟩:Json)+64)
def Nh (x:cY.cC kM) (y:aY.cC kN):iV:=(x.2.2.2.2.2.1,(t8 (t8 (t8 (t8 (t8 x))))).2.2.2.1,(t8 (t8 (t8 (t8 (t8 x))))).2.2.2.2.1,(t8 (t8 (t8 (t8 (t8 x))))).2.2.2.2.2.1,y.1,(⟨y.2.2.2.1.1,⟨y.2.2.2.1.2.1,y.2.2.2.1.2.2.1⟩,y.2.2.2.1.2.2.2.1,y.2.2.2.1.2.2.2.2.1,y.2.2.2.1.2.2.2.2.2.1⟩:Json))
def A3 (L:sI R):D7 R kM kN:=fun x y K=>L (Cb x y) x.2.2.2.2.2.1 ((t8 (t8 (t8 (t8 (t8 x))))).2.2.2.1) ((t8 (t8 (t8 (t8 (t8 x))))).2.2.2.2.1) ((t8 (t8 (t8 (t8 (t8 x))))).2.2.2.2.2.1) y.1 (⟨y.2.2.2.1.1,⟨y.2.2.2.1.2.1,y.2.2.2.1.2.2.1⟩,y.2.2.2.1.2.2.2.1,y.2.2.2.1.2.2.2.2.1,y.2.2.2.1.2.2.2.2.2.1⟩:Json) (sJ K)
section
variable (bT:sf R) (ad:eA R) (ae:dd R) (aA:dj R) (aL:mA R) (aT:sI R)
def mP:List (lC R) := [(125,true,(FP bT av)),(126,false,(hQ ad av)),(124,false,(fj ae av)),(83,false,(aC ig ij (eO aA) av)),(122,false,(yv aL av))]
def iW (fb:ag→(List Json)→Int→Int→(List Int)→Json→Option R) (n9:ag) (uP:List Json) (ml:Int) (wu:Int) (Dk:List Int) (Gh:Json) (e0:ag→(List Int)→Option R):Option R :=
 bif (decide (wu<ml))then (cx (decide ((0:Int)≤wu)&&decide (wu<uP.length)) (bif (decide (wu>(0:Int)))then (ad 44 Dk (fun C2=>bif (Gh.kind==7)then (cx (decide ((0:Int)≤wu)&&decide (wu<Gh.names.length)) (aL (Gh.names.getD wu.toNat (Ty.bR .str)) C2 (fun Yi=>ad 58 Yi (fun Si=>aA (⟨(uP.getD wu.toNat (Ty.bR .json)).kind,⟨(uP.getD wu.toNat (Ty.bR .json)).num.ao,(uP.getD wu.toNat (Ty.bR .json)).num.exp⟩,(uP.getD wu.toNat (Ty.bR .json)).text,(uP.getD wu.toNat (Ty.bR .json)).names,(uP.getD wu.toNat (Ty.bR .json)).items⟩:Json) Si (fun y24=>fb n9 uP ml (IntKind.i64.wrap (wu+1)) y24 (⟨Gh.kind,⟨Gh.num.ao,Gh.num.exp⟩,Gh.text,Gh.names,Gh.items⟩:Json))))))else (aA (⟨(uP.getD wu.toNat (Ty.bR .json)).kind,⟨(uP.getD wu.toNat (Ty.bR .json)).num.ao,(uP.getD wu.toNat (Ty.bR .json)).num.exp⟩,(uP.getD wu.toNat (Ty.bR .json)).text,(uP.getD wu.toNat (Ty.bR .json)).names,(uP.getD wu.toNat (Ty.bR .json)).items⟩:Json) C2 (fun AU=>fb n9 uP ml (IntKind.i64.wrap (wu+1)) AU (⟨Gh.kind,⟨Gh.num.ao,Gh.num.exp⟩,Gh.text,Gh.names,Gh.items⟩:Json)))))else (bif (Gh.kind==7)then (cx (decide ((0:Int)≤wu)&&decide (wu<Gh.names.length)) (aL (Gh.names.getD wu.toNat (Ty.bR .str)) Dk (fun IX=>ad 58 IX (fun FB=>aA (⟨(uP.getD wu.toNat (Ty.bR .json)).kind,⟨(uP.getD wu.toNat (Ty.bR .json)).num.ao,(uP.getD wu.toNat (Ty.bR .json)).num.exp⟩,(uP.getD wu.toNat (Ty.bR .json)).text,(uP.getD wu.toNat (Ty.bR .json)).names,(uP.getD wu.toNat (Ty.bR .json)).items⟩:Json) FB (fun O7=>fb n9 uP ml (IntKind.i64.wrap (wu+1)) O7 (⟨Gh.kind,⟨Gh.num.ao,Gh.num.exp⟩,Gh.text,Gh.names,Gh.items⟩:Json))))))else (aA (⟨(uP.getD wu.toNat (Ty.bR .json)).kind,⟨(uP.getD wu.toNat (Ty.bR .json)).num.ao,(uP.getD wu.toNat (Ty.bR .json)).num.exp⟩,(uP.getD wu.toNat (Ty.bR .json)).text,(uP.getD wu.toNat (Ty.bR .json)).names,(uP.getD wu.toNat (Ty.bR .json)).items⟩:Json) Dk (fun WV=>fb n9 uP ml (IntKind.i64.wrap (wu+1)) WV (⟨Gh.kind,⟨Gh.num.ao,Gh.num.exp⟩,Gh.text,Gh.names,Gh.items⟩:Json))))))else (e0 n9 Dk)
def Cc (K:Ex→St→Option R) (rc:iV→Option R) (d:iV):Option R:=iW ad aA aL (fun z0 z1 z2 z3 z4 z5=>rc (z0,z1,z2,z3,z4,z5)) d.1 d.2.1 d.2.2.1 d.2.2.2.1 d.2.2.2.2.1 d.2.2.2.2.2 (sJ K)
def qu:Nat→Option (Hint×dE R):=fun i=>match i with
 | 18=>some (nV,(dR kM kN (A3 aT) lL))
 | _=>none
theorem I7 (K:Ex→St→Option R) (rc:St→Option R) (d:iV):roundOf tt (dx (mP bT ad ae aA aL)) (qu aT) 2 ((aN (bm Tryz.f83)).getD 0 .skip) nV (qQ d) rc K=Cc ad aA aL K (fun d=>rc (qQ d)) d:=by kernel_rfl
def Cd (x1:Json) (x2:List Int) (k0:(List Int)→Option R):Option R :=
 let j33:=fun (z13:ag)=>cx (decide ((0:Int)<z13.length)) (ad ((z13.getD 0 0).toNat:Int) x2 (fun Gd=>aT (List.length z13+List.length x1.items+Int.natAbs (x1.items.length:Int)+Int.natAbs 0+List.length Gd+Json.fu (⟨x1.kind,⟨x1.num.ao,x1.num.exp⟩,x1.text,x1.names,x1.items⟩:Json)+64) z13 x1.items (x1.items.length:Int) 0 Gd (⟨x1.kind,⟨x1.num.ao,x1.num.exp⟩,x1.text,x1.names,x1.items⟩:Json) (fun OI XC=>cx (decide ((1:Int)<OI.length)) (ad ((OI.getD 1 0).toNat:Int) XC (fun HT=>k0 HT))))); bif (x1.kind==1)then (ae ([110,117,108,108]:ag) x2 (fun y3 y4=>k0 y4))else (bif (x1.kind==2)then (ae ([102,97,108,115,101]:ag) x2 (fun y5 y6=>k0 y6))else (bif (x1.kind==3)then (ae ([116,114,117,101]:ag) x2 (fun y7 y8=>k0 y8))else (bif (x1.kind==4)then (bT x1.num (fun y9=>ae y9 x2 (fun oc uf=>k0 uf)))else (bif (x1.kind==5)then (aL x1.text x2 (fun za=>k0 za))else (bif (x1.kind==7)then (j33 ([123,125]:ag))else (j33 ([91,93]:ag)))))))
theorem Tr:dD (R:=R) tt (mP bT ad ae aA aL) (qu aT) false Tryz.f83 ig ij (eO (Cd bT ad ae aL aT)):=fun x y k=>by kernel_rfl
end
theorem RY (aA:dj R) (nE:aq.Spec.Ok Tryz.prog 83 (aC ig ij (eO aA) av)):cq (R:=R) Tryz.prog (mP (R:=R) bT ad ae aA aL) := .c (HR R) <| .d (jr R) rfl <| .d (fZ R) rfl <| .f nE rfl <| .d (Ca R) rfl <| .n
def aT (aA:dj R):sI R
 | 0,_,_,_,_,_,_,_=>none
 | n+1,jb,jf,jl,uk,Ea,FJ,e0=>iW ad aA aL (fun jb jf jl uk Ea FJ=>aT aA n jb jf jl uk Ea FJ e0) jb jf jl uk Ea FJ e0
def Ce (aA:dj R) (K:Ex→St→Option R) (n:Nat) (d:iV):Option R:=aT aA n d.1 d.2.1 d.2.2.1 d.2.2.2.1 d.2.2.2.2.1 d.2.2.2.2.2 (sJ K)
theorem LA (aA:dj R) (other:dE R) (ho:kg tt (dx (mP (R:=R) bT ad ae aA aL)) (qu (R:=R) (aT aA)) 2 ((aN (bm Tryz.f83)).getD 0 .skip) nV other):kg tt (dx (mP (R:=R) bT ad ae aA aL)) (qu (R:=R) (aT aA)) 2 ((aN (bm Tryz.f83)).getD 0 .skip) nV (dR kM kN (A3 (aT aA)) other) :=
 ei (A:=Ce aA) ho (gd qQ (Cc ad aA aL) (Ce aA) (fun _ _=>by kernel_rfl) (I7 bT ad ae aA aL (aT aA)) (fun _ _ _=>by kernel_rfl)) Cb Nh (fun _ _=>by kernel_rfl) (fun _ _ _=>by kernel_rfl)
def Cf (aA:dj R):dj R:=fun x1 x2 k0=>Cd bT ad ae aL (aT aA) x1 x2 k0
theorem OQ (R:Type) (aA:dj R) (nE:aq.Spec.Ok Tryz.prog 83 (aC ig ij (eO aA) av)):∀a∈aN (bm Tryz.f83),je tt (dx (mP (R:=R) bT ad ae aA aL)) (qu (R:=R) (aT aA)) 2 a:=by
 refine gQ 1 (by kernel_rfl) fun i hi => ?_
 match i,hi with
 | 0,_=>exact dH (by kernel_rfl) (LA aA _ fk)
 | n+1,hi=>omega
theorem OR (R:Type) (aA:dj R) (nE:aq.Spec.Ok Tryz.prog 83 (aC ig ij (eO aA) av)):jQ Tryz.prog 83 (JK (Cf aA)):=bj TT mixed (RY aA nE) rfl rfl rfl rfl (OQ R aA nE) (Tr bT ad ae aA aL (aT aA))
def dk:Nat→dj R
 | 0,_,_,_=>none
 | n+1,jb,jf,k0'=>Cf (dk n) jb jf k0'
theorem json_write_9953_N_succ (n:Nat):dk (R:=R) (n+1)=Cf (dk n):=by kernel_rfl
theorem P8 (R:Type):∀n,aq.Spec.Ok Tryz.prog 83 (aC ig ij (eO (dk (R:=R) n)) av) :=
 AT (run:=fun n=>eO (dk (R:=R) n)) (fun x y k=>by kernel_rfl) fun n hyp=>OR R (dk n) hyp av (fA _)
def cm:dj R:=fun x1 x2 k0=>dk (Json.depth x1+2) x1 x2 k0
theorem P9 (R:Type):eO (R:=R) cm=fun x y k=>eO (dk (Json.depth (⟨x.2.1.1,⟨x.2.1.2.1,x.2.1.2.2.1⟩,x.2.1.2.2.2.1,x.2.1.2.2.2.2.1,x.2.1.2.2.2.2.2.1⟩:Json)+2)) x y k:=by kernel_rfl
theorem Qa (R:Type) (other:aq.Spec R) (ho:aq.Spec.Ok Tryz.prog 83 other):aq.Spec.Ok Tryz.prog 83 (aC ig ij (eO cm) other) :=
 HH (Le (run:=fun n=>eO (dk (R:=R) n)) (fun x y=>(Json.depth (⟨x.2.1.1,⟨x.2.1.2.1,x.2.1.2.2.1⟩,x.2.1.2.2.2.1,x.2.1.2.2.2.2.1,x.2.1.2.2.2.2.2.1⟩:Json)+2)) ho (P8 R)) (P9 R)
end Go.Proofs.YtidfokedcnhahaaGreatDoor
/-
 Functions of the program as pure Lean functions, and the ties; printed by wip/tools/emit.py.
-/
set_option maxRecDepth 100000
namespace Go.Proofs.YtidfokedcnhahaaGreatDoor
open Go Go.aq
variable {R:Type}
/-! ### humpyard/json.write -/
abbrev tL (R:Type):Type:=Json→((List Int)→Option R)→Option R
abbrev Cg:List cY := [.leaf (.ptr 0 0), .agg [.int .i64, .int .i64, .int .i64, .str, .sl .str, .sl .json]]
abbrev Ch:List aY := [.mE (.cv)]
def H7 (fn:tL R):jR R Cg Ch:=fun x y k=>fn (⟨x.2.1.1,⟨x.2.1.2.1,x.2.1.2.2.1⟩,x.2.1.2.2.2.1,x.2.1.2.2.2.2.1,x.2.1.2.2.2.2.2.1⟩:Json) (fun q0=>k (.tuple []) [.mE (.sl (.int .u8) q0 (.own 1)), .tok])
def JL (fn:tL R):=aC Cg Ch (H7 fn)
abbrev sK (R:Type):Type:=Nat→ag→(List Json)→Int→Int→(List Int)→Json→(ag→(List Int)→Option R)→Option R
def nW:Hint := { live := [2,3,4,5,43,44,45],own := [],rows := [],cells := [],drop := [],out := [2,5] }
abbrev iX:Type:=ag×(List Json)×Int×Int×(List Int)×Json
def qR:iX→St:=fun d=>⟨U 2 (.ptr 1 0 :: .ptr 2 0 :: .func 122 [] [.ptr 1 0] :: .str d.1::U 37 (.sl .json d.2.1 .no :: .int .i64 d.2.2.1 :: .int .i64 d.2.2.2.1::U 28 ([]))), [.mE (.sl (.int .u8) d.2.2.2.2.1 (.own 3)), .cells [.ptr 0 0], .cells [.int .i64 d.2.2.2.2.2.kind, .int .i64 d.2.2.2.2.2.num.ao, .int .i64 d.2.2.2.2.2.num.exp, .str d.2.2.2.2.2.text, .sl .str d.2.2.2.2.2.names .no, .sl .json d.2.2.2.2.2.items .no], .tok]⟩
def sL (K:Ex→St→Option R) (q0:ag) (q1:List Int):Option R:=K (.exit 1) ⟨U 2 (.ptr 1 0::U 2 (.str q0::U 68 ([]))), [.mE (.sl (.int .u8) q1 (.own 2)), .cells [.ptr 0 0], .tok]⟩
abbrev kO:List cY:=PU 2 (.leaf (.ptr 1 0) :: .leaf (.ptr 2 0) :: .func 122 [] [.ptr 1 0] :: .leaf (.str)::PU 37 (.leaf (.sl .json) :: .leaf (.int .i64) :: .leaf (.int .i64)::PU 28 ([])))
abbrev kP:List aY := [.mE (.Ye (.int .u8) 3), .cells [.ptr 0 0], .cells [.int .i64, .int .i64, .int .i64, .str, .sl .str, .sl .json], .tok]
def Ci (x:cY.cC kO) (y:aY.cC kP):Nat:=(List.length x.2.2.2.2.2.1+List.length ((t8 (t8 (t8 (t8 (t8 x))))).2.2.2.1)+Int.natAbs ((t8 (t8 (t8 (t8 (t8 x))))).2.2.2.2.1)+Int.natAbs ((t8 (t8 (t8 (t8 (t8 x))))).2.2.2.2.2.1)+List.length y.1+Json.fu (⟨y.2.2.1.1,⟨y.2.2.1.2.1,y.2.2.1.2.2.1⟩,y.2.2.1.2.2.2.1,y.2.2.1.2.2.2.2.1,y.2.2.1.2.2.2.2.2.1⟩:Json)+64)
def Ni (x:cY.cC kO) (y:aY.cC kP):iX:=(x.2.2.2.2.2.1,(t8 (t8 (t8 (t8 (t8 x))))).2.2.2.1,(t8 (t8 (t8 (t8 (t8 x))))).2.2.2.2.1,(t8 (t8 (t8 (t8 (t8 x))))).2.2.2.2.2.1,y.1,(⟨y.2.2.1.1,⟨y.2.2.1.2.1,y.2.2.1.2.2.1⟩,y.2.2.1.2.2.2.1,y.2.2.1.2.2.2.2.1,y.2.2.1.2.2.2.2.2.1⟩:Json))
def A4 (L:sK R):D7 R kO kP:=fun x y K=>L (Ci x y) x.2.2.2.2.2.1 ((t8 (t8 (t8 (t8 (t8 x))))).2.2.2.1) ((t8 (t8 (t8 (t8 (t8 x))))).2.2.2.2.1) ((t8 (t8 (t8 (t8 (t8 x))))).2.2.2.2.2.1) y.1 (⟨y.2.2.1.1,⟨y.2.2.1.2.1,y.2.2.1.2.2.1⟩,y.2.2.1.2.2.2.1,y.2.2.1.2.2.2.2.1,y.2.2.1.2.2.2.2.2.1⟩:Json) (sL K)
section
variable (bT:sf R) (aj:ez R) (ad:eA R) (ai:dT R) (cm:dj R) (dL:qs R) (aL:mA R) (bI:sK R)
def mQ:List (lC R) := [(125,true,(FP bT av)),(126,false,(hQ ad (hP aj av))),(124,false,(gO ai av)),(83,false,(JK cm av)),(122,false,(yv aL (Gq dL av)))]
def Cj (fb:ag→(List Json)→Int→Int→(List Int)→Json→Option R) (Xr:ag) (n9:List Json) (uP:Int) (ml:Int) (wu:List Int) (Dk:Json) (e0:ag→(List Int)→Option R):Option R :=
 bif (decide (ml<uP))then (cx (decide ((0:Int)≤ml)&&decide (ml<n9.length)) (bif (decide (ml>(0:Int)))then (ad 44 wu (fun Lg=>bif (Dk.kind==7)then (cx (decide ((0:Int)≤ml)&&decide (ml<Dk.names.length)) (aL (Dk.names.getD ml.toNat (Ty.bR .str)) Lg (fun C2=>ad 58 C2 (fun Yi=>cm (⟨(n9.getD ml.toNat (Ty.bR .json)).kind,⟨(n9.getD ml.toNat (Ty.bR .json)).num.ao,(n9.getD ml.toNat (Ty.bR .json)).num.exp⟩,(n9.getD ml.toNat (Ty.bR .json)).text,(n9.getD ml.toNat (Ty.bR .json)).names,(n9.getD ml.toNat (Ty.bR .json)).items⟩:Json) Yi (fun Si=>fb Xr n9 uP (IntKind.i64.wrap (ml+1)) Si (⟨Dk.kind,⟨Dk.num.ao,Dk.num.exp⟩,Dk.text,Dk.names,Dk.items⟩:Json))))))else (cm (⟨(n9.getD ml.toNat (Ty.bR .json)).kind,⟨(n9.getD ml.toNat (Ty.bR .json)).num.ao,(n9.getD ml.toNat (Ty.bR .json)).num.exp⟩,(n9.getD ml.toNat (Ty.bR .json)).text,(n9.getD ml.toNat (Ty.bR .json)).names,(n9.getD ml.toNat (Ty.bR .json)).items⟩:Json) Lg (fun y24=>fb Xr n9 uP (IntKind.i64.wrap (ml+1)) y24 (⟨Dk.kind,⟨Dk.num.ao,Dk.num.exp⟩,Dk.text,Dk.names,Dk.items⟩:Json)))))else (bif (Dk.kind==7)then (cx (decide ((0:Int)≤ml)&&decide (ml<Dk.names.length)) (aL (Dk.names.getD ml.toNat (Ty.bR .str)) wu (fun AU=>ad 58 AU (fun IX=>cm (⟨(n9.getD ml.toNat (Ty.bR .json)).kind,⟨(n9.getD ml.toNat (Ty.bR .json)).num.ao,(n9.getD ml.toNat (Ty.bR .json)).num.exp⟩,(n9.getD ml.toNat (Ty.bR .json)).text,(n9.getD ml.toNat (Ty.bR .json)).names,(n9.getD ml.toNat (Ty.bR .json)).items⟩:Json) IX (fun FB=>fb Xr n9 uP (IntKind.i64.wrap (ml+1)) FB (⟨Dk.kind,⟨Dk.num.ao,Dk.num.exp⟩,Dk.text,Dk.names,Dk.items⟩:Json))))))else (cm (⟨(n9.getD ml.toNat (Ty.bR .json)).kind,⟨(n9.getD ml.toNat (Ty.bR .json)).num.ao,(n9.getD ml.toNat (Ty.bR .json)).num.exp⟩,(n9.getD ml.toNat (Ty.bR .json)).text,(n9.getD ml.toNat (Ty.bR .json)).names,(n9.getD ml.toNat (Ty.bR .json)).items⟩:Json) wu (fun O7=>fb Xr n9 uP (IntKind.i64.wrap (ml+1)) O7 (⟨Dk.kind,⟨Dk.num.ao,Dk.num.exp⟩,Dk.text,Dk.names,Dk.items⟩:Json))))))else (e0 Xr wu)
def Ck (K:Ex→St→Option R) (rc:iX→Option R) (d:iX):Option R:=Cj ad cm aL (fun z0 z1 z2 z3 z4 z5=>rc (z0,z1,z2,z3,z4,z5)) d.1 d.2.1 d.2.2.1 d.2.2.2.1 d.2.2.2.2.1 d.2.2.2.2.2 (sL K)
def qv:Nat→Option (Hint×dE R):=fun i=>match i with
 | 18=>some (nW,(dR kO kP (A4 bI) lL))
 | _=>none
theorem I8 (K:Ex→St→Option R) (rc:St→Option R) (d:iX):roundOf tt (dx (mQ bT aj ad ai cm dL aL)) (qv bI) 1 ((aN (bm Tryz.f83)).getD 0 .skip) nW (qR d) rc K=Ck ad cm aL K (fun d=>rc (qR d)) d:=by kernel_rfl
def Cl (x1:Json) (k0:(List Int)→Option R):Option R :=
 let j32:=fun (z12:ag)=>cx (decide ((0:Int)<z12.length)) (aj ((z12.getD 0 0).toNat:Int) (fun FM=>bI (List.length z12+List.length x1.items+Int.natAbs (x1.items.length:Int)+Int.natAbs 0+List.length FM+Json.fu (⟨x1.kind,⟨x1.num.ao,x1.num.exp⟩,x1.text,x1.names,x1.items⟩:Json)+64) z12 x1.items (x1.items.length:Int) 0 FM (⟨x1.kind,⟨x1.num.ao,x1.num.exp⟩,x1.text,x1.names,x1.items⟩:Json) (fun WV OI=>cx (decide ((1:Int)<WV.length)) (ad ((WV.getD 1 0).toNat:Int) OI (fun XC=>k0 XC))))); bif (x1.kind==1)then (ai ([110,117,108,108]:ag) (fun y2 y3=>k0 y3))else (bif (x1.kind==2)then (ai ([102,97,108,115,101]:ag) (fun y4 y5=>k0 y5))else (bif (x1.kind==3)then (ai ([116,114,117,101]:ag) (fun y6 y7=>k0 y7))else (bif (x1.kind==4)then (bT x1.num (fun y8=>ai y8 (fun y9 oc=>k0 oc)))else (bif (x1.kind==5)then (dL x1.text (fun uf=>k0 uf))else (bif (x1.kind==7)then (j32 ([123,125]:ag))else (j32 ([91,93]:ag)))))))
theorem Ts:dD (R:=R) tt (mQ bT aj ad ai cm dL aL) (qv bI) false Tryz.f83 Cg Ch (H7 (Cl bT aj ad ai dL bI)):=fun x y k=>by kernel_rfl
end
theorem RZ:cq (R:=R) Tryz.prog (mQ (R:=R) bT aj ad ai cm dL aL) := .c (HR R) <| .f (jr R _ (jq R _ (fA _))) rfl <| .d (iP R) rfl <| .f (Qa R _ (fA _)) rfl <| .f (Ca R _ (Ng R _ (fA _))) rfl <| .n
def bI:sK R
 | 0,_,_,_,_,_,_,_=>none
 | n+1,jb,jf,jl,uk,Ea,FJ,e0=>Cj ad cm aL (fun jb jf jl uk Ea FJ=>bI n jb jf jl uk Ea FJ e0) jb jf jl uk Ea FJ e0
def Cm (K:Ex→St→Option R) (n:Nat) (d:iX):Option R:=bI n d.1 d.2.1 d.2.2.1 d.2.2.2.1 d.2.2.2.2.1 d.2.2.2.2.2 (sL K)
theorem LB (other:dE R) (ho:kg tt (dx (mQ (R:=R) bT aj ad ai cm dL aL)) (qv (R:=R) bI) 1 ((aN (bm Tryz.f83)).getD 0 .skip) nW other):kg tt (dx (mQ (R:=R) bT aj ad ai cm dL aL)) (qv (R:=R) bI) 1 ((aN (bm Tryz.f83)).getD 0 .skip) nW (dR kO kP (A4 (bI)) other) :=
 ei (A:=Cm) ho (gd qR (Ck ad cm aL) (Cm) (fun _ _=>by kernel_rfl) (I8 bT aj ad ai cm dL aL bI) (fun _ _ _=>by kernel_rfl)) Ci Ni (fun _ _=>by kernel_rfl) (fun _ _ _=>by kernel_rfl)
def gW:tL R:=fun x1 k0=>Cl bT aj ad ai dL bI x1 k0
theorem OS (R:Type):∀a∈aN (bm Tryz.f83),je tt (dx (mQ (R:=R) bT aj ad ai cm dL aL)) (qv (R:=R) bI) 1 a:=by
 refine gQ 1 (by kernel_rfl) fun i hi => ?_
 match i,hi with
 | 0,_=>exact dH (by kernel_rfl) (LB _ fk)
 | n+1,hi=>omega
theorem Qb (R:Type):jQ Tryz.prog 83 (JL (gW (R:=R))):=bj TT mixed (RZ (R:=R)) rfl rfl rfl rfl (OS R) (Ts bT aj ad ai cm dL aL bI)
/-! ### humpyard/json.Print -/
abbrev uU (R:Type):Type:=Json→(ag→Option R)→Option R
abbrev Nj:List cY := [.agg [.int .i64, .int .i64, .int .i64, .str, .sl .str, .sl .json]]
abbrev Nk:List aY := []
def SD (fn:uU R):jR R Nj Nk:=fun x y k=>fn (⟨x.1.1,⟨x.1.2.1,x.1.2.2.1⟩,x.1.2.2.2.1,x.1.2.2.2.2.1,x.1.2.2.2.2.2.1⟩:Json) (fun q0=>k (.str q0) [])
def Nl (fn:uU R):=aC Nj Nk (SD fn)
section
variable (na:EE R) (gW:tL R)
def U0:List (lC R) := [(84,false,(MB R)),(82,true,(UB na av)),(83,false,(JL gW av))]
def Hd (x1:Json) (k0:ag→Option R):Option R :=
 na (⟨x1.kind,⟨x1.num.ao,x1.num.exp⟩,x1.text,x1.names,x1.items⟩:Json) (fun y2=>bif (!y2)then (k0 ([]:ag))else (gW (⟨x1.kind,⟨x1.num.ao,x1.num.exp⟩,x1.text,x1.names,x1.items⟩:Json) (fun y3=>k0 (wh y3))))
theorem json_Print_ok:dD (R:=R) tt (U0 na gW) nJ false Tryz.f35 Nj Nk (SD (Hd na gW)):=fun x y k=>by kernel_rfl
end
theorem ZR:cq (R:=R) Tryz.prog (U0 (R:=R) na gW) := .s (Yh) Ro <| .c (XA R) <| .d (Qb R) rfl <| .n
def dM:uU R:=fun x1 k0=>Hd na gW x1 k0
theorem Oq (R:Type):jQ Tryz.prog 35 (Nl (dM (R:=R))):=bj TT mixed (ZR (R:=R)) rfl rfl rfl rfl bX (json_Print_ok na gW)
/-! ### humpyard/seal.Sum -/
abbrev JM (R:Type):Type:=ag→(Int→Option R)→Option R
abbrev Tt:List cY := [.leaf (.str)]
abbrev Tu:List aY := []
def W7 (fn:JM R):jR R Tt Tu:=fun x y k=>fn x.1 (fun q0=>k (.int .u32 q0) [])
def ZS (fn:JM R):=aC Tt Tu (W7 fn)
abbrev F2 (R:Type):Type:=Nat→Int→Nat→Int→Int→(List Int)→(Int→Option R)→Option R
def Cn:Hint := { live := [3,7,8,9],own := [],rows := [],cells := [],drop := [],out := [2,3] }
abbrev sM:Type:=Int×Nat×Int×Int×(List Int)
def El:sM→St:=fun d=>⟨U 3 (.int .u32 d.1::U 3 (.row 0 d.2.1 :: .int .i64 d.2.2.1 :: .int .i64 d.2.2.2.1::U 10 ([]))), [.row (.int .u8) d.2.2.2.2]⟩
def F3 (K:Ex→St→Option R) (q0:Int):Option R:=K (.exit 0) ⟨U 3 (.int .u32 q0::U 16 ([])), []⟩
abbrev wV:List cY:=PU 3 (.leaf (.int .u32)::PU 3 (.leaf (.row 0) :: .leaf (.int .i64) :: .leaf (.int .i64)::PU 10 ([])))
abbrev wW:List aY := [.row (.int .u8)]
def Qc (x:cY.cC wV) (y:aY.cC wW):Nat:=(Int.natAbs x.2.2.2.1+Int.natAbs ((t8 x).1)+Int.natAbs ((t8 x).2.1)+List.length y.1+64)
def ZT (x:cY.cC wV) (y:aY.cC wW):sM:=(x.2.2.2.1,x.2.2.2.2.2.2.2.1,(t8 x).1,(t8 x).2.1,y.1)
def Ot (L:F2 R):D7 R wV wW:=fun x y K=>L (Qc x y) x.2.2.2.1 x.2.2.2.2.2.2.2.1 ((t8 x).1) ((t8 x).2.1) y.1 (F3 K)
section
variable (dY:F2 R)
def Co (fb:Int→Nat→Int→Int→(List Int)→Option R) (x2:Int) (x3:Nat) (x4:Int) (x5:Int) (x6:List Int) (e0:Int→Option R):Option R :=
 bif (decide (x5<x4))then (cx (decide ((0:Int)≤x5)&&decide (x5<x3)) (cx (decide (x5.toNat<x6.length)) (fb (IntKind.u32.wrap ((IntKind.u32.wrap ((BitVec.ofInt IntKind.u32.bits x2 ^^^ BitVec.ofInt IntKind.u32.bits (IntKind.u32.wrap (x6.getD x5.toNat (Ty.bR (.int .u8))))).toNat:Int))*16777619)) x3 x4 (IntKind.i64.wrap (x5+1)) x6)))else (e0 x2)
def Qd (K:Ex→St→Option R) (rc:sM→Option R) (d:sM):Option R:=Co (fun z0 z1 z2 z3 z4=>rc (z0,z1,z2,z3,z4)) d.1 d.2.1 d.2.2.1 d.2.2.2.1 d.2.2.2.2 (F3 K)
def H8:Nat→Option (Hint×dE R):=fun i=>match i with
 | 3=>some (Cn,(dR wV wW (Ot dY) lL))
 | _=>none
theorem U1 (K:Ex→St→Option R) (rc:St→Option R) (d:sM):roundOf tt (dx []) (H8 dY) 0 ((aN (bm Tryz.f67)).getD 0 .skip) Cn (El d) rc K=Qd K (fun d=>rc (El d)) d:=by kernel_rfl
def ZU (x1:ag) (k0:Int→Option R):Option R :=
 dY (Int.natAbs 2166136261+Int.natAbs (x1.length:Int)+Int.natAbs 0+List.length (gR x1)+64) 2166136261 x1.length (x1.length:Int) 0 (gR x1) (fun y7=>k0 y7)
theorem seal_Sum_ok:dD (R:=R) tt [] (H8 dY) false Tryz.f67 Tt Tu (W7 (ZU dY)):=fun x y k=>by kernel_rfl
end
def dY:F2 R
 | 0,_,_,_,_,_,_=>none
 | n+1,jb,jf,jl,uk,Ea,e0=>Co (fun jb jf jl uk Ea=>dY n jb jf jl uk Ea e0) jb jf jl uk Ea e0
def Qe (K:Ex→St→Option R) (n:Nat) (d:sM):Option R:=dY n d.1 d.2.1 d.2.2.1 d.2.2.2.1 d.2.2.2.2 (F3 K)
theorem XM (other:dE R) (ho:kg tt (dx []) (H8 (R:=R) dY) 0 ((aN (bm Tryz.f67)).getD 0 .skip) Cn other):kg tt (dx []) (H8 (R:=R) dY) 0 ((aN (bm Tryz.f67)).getD 0 .skip) Cn (dR wV wW (Ot (dY)) other) :=
 ei (A:=Qe) ho (gd El (Qd) (Qe) (fun _ _=>by kernel_rfl) (U1 dY) (fun _ _ _=>by kernel_rfl)) Qc ZT (fun _ _=>by kernel_rfl) (fun _ _ _=>by kernel_rfl)
def uD:JM R:=fun x1 k0=>ZU dY x1 k0
theorem ZV (R:Type):∀a∈aN (bm Tryz.f67),je tt (dx []) (H8 (R:=R) dY) 0 a:=by
 refine gQ 1 (by kernel_rfl) fun i hi => ?_
 match i,hi with
 | 0,_=>exact dH (by kernel_rfl) (XM _ fk)
 | n+1,hi=>omega
theorem seal_Sum_S_ok (R:Type):jQ Tryz.prog 67 (ZS (uD (R:=R))):=bj TT mixed .n rfl rfl rfl rfl (ZV R) (seal_Sum_ok dY)
/-! ### humpyard/seal.Seal -/
abbrev nX (R:Type):Type:=ag→(ag→Option R)→Option R
abbrev Qf:List cY := [.leaf (.str)]
abbrev Qg:List aY := []
def U2 (fn:nX R):jR R Qf Qg:=fun x y k=>fn x.1 (fun q0=>k (.str q0) [])
def A5 (fn:nX R):=aC Qf Qg (U2 fn)
section
variable (uD:JM R)
def W8:List (lC R) := [(67,true,(ZS uD av))]
def JN (x1:ag) (k0:ag→Option R):Option R :=
 uD x1 (fun y2=>cx (decide ((0:Int)≤(IntKind.u32.wrap ((BitVec.ofInt IntKind.u32.bits y2 &&& BitVec.ofInt IntKind.u32.bits 15).toNat:Int)))&&decide ((IntKind.u32.wrap ((BitVec.ofInt IntKind.u32.bits y2 &&& BitVec.ofInt IntKind.u32.bits 15).toNat:Int))<(16:Int))) (cx (decide ((0:Int)≤(IntKind.u32.wrap ((BitVec.ofInt IntKind.u32.bits (Int.fdiv y2 (2 ^ (min 4 IntKind.u32.bits))) &&& BitVec.ofInt IntKind.u32.bits 15).toNat:Int)))&&decide ((IntKind.u32.wrap ((BitVec.ofInt IntKind.u32.bits (Int.fdiv y2 (2 ^ (min 4 IntKind.u32.bits))) &&& BitVec.ofInt IntKind.u32.bits 15).toNat:Int))<(16:Int))) (cx (decide ((0:Int)≤(IntKind.u32.wrap ((BitVec.ofInt IntKind.u32.bits (Int.fdiv (Int.fdiv y2 (2 ^ (min 4 IntKind.u32.bits))) (2 ^ (min 4 IntKind.u32.bits))) &&& BitVec.ofInt IntKind.u32.bits 15).toNat:Int)))&&decide ((IntKind.u32.wrap ((BitVec.ofInt IntKind.u32.bits (Int.fdiv (Int.fdiv y2 (2 ^ (min 4 IntKind.u32.bits))) (2 ^ (min 4 IntKind.u32.bits))) &&& BitVec.ofInt IntKind.u32.bits 15).toNat:Int))<(16:Int))) (cx (decide ((0:Int)≤(IntKind.u32.wrap ((BitVec.ofInt IntKind.u32.bits (Int.fdiv (Int.fdiv (Int.fdiv y2 (2 ^ (min 4 IntKind.u32.bits))) (2 ^ (min 4 IntKind.u32.bits))) (2 ^ (min 4 IntKind.u32.bits))) &&& BitVec.ofInt IntKind.u32.bits 15).toNat:Int)))&&decide ((IntKind.u32.wrap ((BitVec.ofInt IntKind.u32.bits (Int.fdiv (Int.fdiv (Int.fdiv y2 (2 ^ (min 4 IntKind.u32.bits))) (2 ^ (min 4 IntKind.u32.bits))) (2 ^ (min 4 IntKind.u32.bits))) &&& BitVec.ofInt IntKind.u32.bits 15).toNat:Int))<(16:Int))) (cx (decide ((0:Int)≤(IntKind.u32.wrap ((BitVec.ofInt IntKind.u32.bits (Int.fdiv (Int.fdiv (Int.fdiv (Int.fdiv y2 (2 ^ (min 4 IntKind.u32.bits))) (2 ^ (min 4 IntKind.u32.bits))) (2 ^ (min 4 IntKind.u32.bits))) (2 ^ (min 4 IntKind.u32.bits))) &&& BitVec.ofInt IntKind.u32.bits 15).toNat:Int)))&&decide ((IntKind.u32.wrap ((BitVec.ofInt IntKind.u32.bits (Int.fdiv (Int.fdiv (Int.fdiv (Int.fdiv y2 (2 ^ (min 4 IntKind.u32.bits))) (2 ^ (min 4 IntKind.u32.bits))) (2 ^ (min 4 IntKind.u32.bits))) (2 ^ (min 4 IntKind.u32.bits))) &&& BitVec.ofInt IntKind.u32.bits 15).toNat:Int))<(16:Int))) (cx (decide ((0:Int)≤(IntKind.u32.wrap ((BitVec.ofInt IntKind.u32.bits (Int.fdiv (Int.fdiv (Int.fdiv (Int.fdiv (Int.fdiv y2 (2 ^ (min 4 IntKind.u32.bits))) (2 ^ (min 4 IntKind.u32.bits))) (2 ^ (min 4 IntKind.u32.bits))) (2 ^ (min 4 IntKind.u32.bits))) (2 ^ (min 4 IntKind.u32.bits))) &&& BitVec.ofInt IntKind.u32.bits 15).toNat:Int)))&&decide ((IntKind.u32.wrap ((BitVec.ofInt IntKind.u32.bits (Int.fdiv (Int.fdiv (Int.fdiv (Int.fdiv (Int.fdiv y2 (2 ^ (min 4 IntKind.u32.bits))) (2 ^ (min 4 IntKind.u32.bits))) (2 ^ (min 4 IntKind.u32.bits))) (2 ^ (min 4 IntKind.u32.bits))) (2 ^ (min 4 IntKind.u32.bits))) &&& BitVec.ofInt IntKind.u32.bits 15).toNat:Int))<(16:Int))) (cx (decide ((0:Int)≤(IntKind.u32.wrap ((BitVec.ofInt IntKind.u32.bits (Int.fdiv (Int.fdiv (Int.fdiv (Int.fdiv (Int.fdiv (Int.fdiv y2 (2 ^ (min 4 IntKind.u32.bits))) (2 ^ (min 4 IntKind.u32.bits))) (2 ^ (min 4 IntKind.u32.bits))) (2 ^ (min 4 IntKind.u32.bits))) (2 ^ (min 4 IntKind.u32.bits))) (2 ^ (min 4 IntKind.u32.bits))) &&& BitVec.ofInt IntKind.u32.bits 15).toNat:Int)))&&decide ((IntKind.u32.wrap ((BitVec.ofInt IntKind.u32.bits (Int.fdiv (Int.fdiv (Int.fdiv (Int.fdiv (Int.fdiv (Int.fdiv y2 (2 ^ (min 4 IntKind.u32.bits))) (2 ^ (min 4 IntKind.u32.bits))) (2 ^ (min 4 IntKind.u32.bits))) (2 ^ (min 4 IntKind.u32.bits))) (2 ^ (min 4 IntKind.u32.bits))) (2 ^ (min 4 IntKind.u32.bits))) &&& BitVec.ofInt IntKind.u32.bits 15).toNat:Int))<(16:Int))) (cx (decide ((0:Int)≤(IntKind.u32.wrap ((BitVec.ofInt IntKind.u32.bits (Int.fdiv (Int.fdiv (Int.fdiv (Int.fdiv (Int.fdiv (Int.fdiv (Int.fdiv y2 (2 ^ (min 4 IntKind.u32.bits))) (2 ^ (min 4 IntKind.u32.bits))) (2 ^ (min 4 IntKind.u32.bits))) (2 ^ (min 4 IntKind.u32.bits))) (2 ^ (min 4 IntKind.u32.bits))) (2 ^ (min 4 IntKind.u32.bits))) (2 ^ (min 4 IntKind.u32.bits))) &&& BitVec.ofInt IntKind.u32.bits 15).toNat:Int)))&&decide ((IntKind.u32.wrap ((BitVec.ofInt IntKind.u32.bits (Int.fdiv (Int.fdiv (Int.fdiv (Int.fdiv (Int.fdiv (Int.fdiv (Int.fdiv y2 (2 ^ (min 4 IntKind.u32.bits))) (2 ^ (min 4 IntKind.u32.bits))) (2 ^ (min 4 IntKind.u32.bits))) (2 ^ (min 4 IntKind.u32.bits))) (2 ^ (min 4 IntKind.u32.bits))) (2 ^ (min 4 IntKind.u32.bits))) (2 ^ (min 4 IntKind.u32.bits))) &&& BitVec.ofInt IntKind.u32.bits 15).toNat:Int))<(16:Int))) (cx (decide (x1.length+1≤9223372036854775807)) (cx (decide ((x1++([35]:ag)).length+(List.map (fun n:Int=>UInt8.ofNat n.toNat) ([((([48,49,50,51,52,53,54,55,56,57,97,98,99,100,101,102]:ag).getD ((IntKind.u32.wrap ((BitVec.ofInt IntKind.u32.bits (Int.fdiv (Int.fdiv (Int.fdiv (Int.fdiv (Int.fdiv (Int.fdiv (Int.fdiv y2 (2 ^ (min 4 IntKind.u32.bits))) (2 ^ (min 4 IntKind.u32.bits))) (2 ^ (min 4 IntKind.u32.bits))) (2 ^ (min 4 IntKind.u32.bits))) (2 ^ (min 4 IntKind.u32.bits))) (2 ^ (min 4 IntKind.u32.bits))) (2 ^ (min 4 IntKind.u32.bits))) &&& BitVec.ofInt IntKind.u32.bits 15).toNat:Int)).toNat) 0).toNat:Int),((([48,49,50,51,52,53,54,55,56,57,97,98,99,100,101,102]:ag).getD ((IntKind.u32.wrap ((BitVec.ofInt IntKind.u32.bits (Int.fdiv (Int.fdiv (Int.fdiv (Int.fdiv (Int.fdiv (Int.fdiv y2 (2 ^ (min 4 IntKind.u32.bits))) (2 ^ (min 4 IntKind.u32.bits))) (2 ^ (min 4 IntKind.u32.bits))) (2 ^ (min 4 IntKind.u32.bits))) (2 ^ (min 4 IntKind.u32.bits))) (2 ^ (min 4 IntKind.u32.bits))) &&& BitVec.ofInt IntKind.u32.bits 15).toNat:Int)).toNat) 0).toNat:Int),((([48,49,50,51,52,53,54,55,56,57,97,98,99,100,101,102]:ag).getD ((IntKind.u32.wrap ((BitVec.ofInt IntKind.u32.bits (Int.fdiv (Int.fdiv (Int.fdiv (Int.fdiv (Int.fdiv y2 (2 ^ (min 4 IntKind.u32.bits))) (2 ^ (min 4 IntKind.u32.bits))) (2 ^ (min 4 IntKind.u32.bits))) (2 ^ (min 4 IntKind.u32.bits))) (2 ^ (min 4 IntKind.u32.bits))) &&& BitVec.ofInt IntKind.u32.bits 15).toNat:Int)).toNat) 0).toNat:Int),((([48,49,50,51,52,53,54,55,56,57,97,98,99,100,101,102]:ag).getD ((IntKind.u32.wrap ((BitVec.ofInt IntKind.u32.bits (Int.fdiv (Int.fdiv (Int.fdiv (Int.fdiv y2 (2 ^ (min 4 IntKind.u32.bits))) (2 ^ (min 4 IntKind.u32.bits))) (2 ^ (min 4 IntKind.u32.bits))) (2 ^ (min 4 IntKind.u32.bits))) &&& BitVec.ofInt IntKind.u32.bits 15).toNat:Int)).toNat) 0).toNat:Int),((([48,49,50,51,52,53,54,55,56,57,97,98,99,100,101,102]:ag).getD ((IntKind.u32.wrap ((BitVec.ofInt IntKind.u32.bits (Int.fdiv (Int.fdiv (Int.fdiv y2 (2 ^ (min 4 IntKind.u32.bits))) (2 ^ (min 4 IntKind.u32.bits))) (2 ^ (min 4 IntKind.u32.bits))) &&& BitVec.ofInt IntKind.u32.bits 15).toNat:Int)).toNat) 0).toNat:Int),((([48,49,50,51,52,53,54,55,56,57,97,98,99,100,101,102]:ag).getD ((IntKind.u32.wrap ((BitVec.ofInt IntKind.u32.bits (Int.fdiv (Int.fdiv y2 (2 ^ (min 4 IntKind.u32.bits))) (2 ^ (min 4 IntKind.u32.bits))) &&& BitVec.ofInt IntKind.u32.bits 15).toNat:Int)).toNat) 0).toNat:Int),((([48,49,50,51,52,53,54,55,56,57,97,98,99,100,101,102]:ag).getD ((IntKind.u32.wrap ((BitVec.ofInt IntKind.u32.bits (Int.fdiv y2 (2 ^ (min 4 IntKind.u32.bits))) &&& BitVec.ofInt IntKind.u32.bits 15).toNat:Int)).toNat) 0).toNat:Int),((([48,49,50,51,52,53,54,55,56,57,97,98,99,100,101,102]:ag).getD ((IntKind.u32.wrap ((BitVec.ofInt IntKind.u32.bits y2 &&& BitVec.ofInt IntKind.u32.bits 15).toNat:Int)).toNat) 0).toNat:Int)]:List Int):ag).length≤9223372036854775807)) (k0 ((x1++([35]:ag))++(List.map (fun n:Int=>UInt8.ofNat n.toNat) ([((([48,49,50,51,52,53,54,55,56,57,97,98,99,100,101,102]:ag).getD ((IntKind.u32.wrap ((BitVec.ofInt IntKind.u32.bits (Int.fdiv (Int.fdiv (Int.fdiv (Int.fdiv (Int.fdiv (Int.fdiv (Int.fdiv y2 (2 ^ (min 4 IntKind.u32.bits))) (2 ^ (min 4 IntKind.u32.bits))) (2 ^ (min 4 IntKind.u32.bits))) (2 ^ (min 4 IntKind.u32.bits))) (2 ^ (min 4 IntKind.u32.bits))) (2 ^ (min 4 IntKind.u32.bits))) (2 ^ (min 4 IntKind.u32.bits))) &&& BitVec.ofInt IntKind.u32.bits 15).toNat:Int)).toNat) 0).toNat:Int),((([48,49,50,51,52,53,54,55,56,57,97,98,99,100,101,102]:ag).getD ((IntKind.u32.wrap ((BitVec.ofInt IntKind.u32.bits (Int.fdiv (Int.fdiv (Int.fdiv (Int.fdiv (Int.fdiv (Int.fdiv y2 (2 ^ (min 4 IntKind.u32.bits))) (2 ^ (min 4 IntKind.u32.bits))) (2 ^ (min 4 IntKind.u32.bits))) (2 ^ (min 4 IntKind.u32.bits))) (2 ^ (min 4 IntKind.u32.bits))) (2 ^ (min 4 IntKind.u32.bits))) &&& BitVec.ofInt IntKind.u32.bits 15).toNat:Int)).toNat) 0).toNat:Int),((([48,49,50,51,52,53,54,55,56,57,97,98,99,100,101,102]:ag).getD ((IntKind.u32.wrap ((BitVec.ofInt IntKind.u32.bits (Int.fdiv (Int.fdiv (Int.fdiv (Int.fdiv (Int.fdiv y2 (2 ^ (min 4 IntKind.u32.bits))) (2 ^ (min 4 IntKind.u32.bits))) (2 ^ (min 4 IntKind.u32.bits))) (2 ^ (min 4 IntKind.u32.bits))) (2 ^ (min 4 IntKind.u32.bits))) &&& BitVec.ofInt IntKind.u32.bits 15).toNat:Int)).toNat) 0).toNat:Int),((([48,49,50,51,52,53,54,55,56,57,97,98,99,100,101,102]:ag).getD ((IntKind.u32.wrap ((BitVec.ofInt IntKind.u32.bits (Int.fdiv (Int.fdiv (Int.fdiv (Int.fdiv y2 (2 ^ (min 4 IntKind.u32.bits))) (2 ^ (min 4 IntKind.u32.bits))) (2 ^ (min 4 IntKind.u32.bits))) (2 ^ (min 4 IntKind.u32.bits))) &&& BitVec.ofInt IntKind.u32.bits 15).toNat:Int)).toNat) 0).toNat:Int),((([48,49,50,51,52,53,54,55,56,57,97,98,99,100,101,102]:ag).getD ((IntKind.u32.wrap ((BitVec.ofInt IntKind.u32.bits (Int.fdiv (Int.fdiv (Int.fdiv y2 (2 ^ (min 4 IntKind.u32.bits))) (2 ^ (min 4 IntKind.u32.bits))) (2 ^ (min 4 IntKind.u32.bits))) &&& BitVec.ofInt IntKind.u32.bits 15).toNat:Int)).toNat) 0).toNat:Int),((([48,49,50,51,52,53,54,55,56,57,97,98,99,100,101,102]:ag).getD ((IntKind.u32.wrap ((BitVec.ofInt IntKind.u32.bits (Int.fdiv (Int.fdiv y2 (2 ^ (min 4 IntKind.u32.bits))) (2 ^ (min 4 IntKind.u32.bits))) &&& BitVec.ofInt IntKind.u32.bits 15).toNat:Int)).toNat) 0).toNat:Int),((([48,49,50,51,52,53,54,55,56,57,97,98,99,100,101,102]:ag).getD ((IntKind.u32.wrap ((BitVec.ofInt IntKind.u32.bits (Int.fdiv y2 (2 ^ (min 4 IntKind.u32.bits))) &&& BitVec.ofInt IntKind.u32.bits 15).toNat:Int)).toNat) 0).toNat:Int),((([48,49,50,51,52,53,54,55,56,57,97,98,99,100,101,102]:ag).getD ((IntKind.u32.wrap ((BitVec.ofInt IntKind.u32.bits y2 &&& BitVec.ofInt IntKind.u32.bits 15).toNat:Int)).toNat) 0).toNat:Int)]:List Int):ag)))))))))))))
theorem seal_Seal_ok:dD (R:=R) tt (W8 uD) nJ false Tryz.f28 Qf Qg (U2 (JN uD)):=fun x y k=>by kernel_rfl
end
theorem seal_Seal_EOk:cq (R:=R) Tryz.prog (W8 (R:=R) uD) := .c (seal_Sum_S_ok R) <| .n
def bQ:nX R:=fun x1 k0=>JN uD x1 k0
theorem wX (R:Type):jQ Tryz.prog 28 (A5 (bQ (R:=R))):=bj TT mixed (seal_Seal_EOk (R:=R)) rfl rfl rfl rfl bX (seal_Seal_ok uD)
/-! ### humpyard/seal.Open -/
abbrev nY (R:Type):Type:=ag→(ag→Int→Option R)→Option R
abbrev Qh:List cY := [.leaf (.str)]
abbrev Qi:List aY := []
def U3 (fn:nY R):jR R Qh Qi:=fun x y k=>fn x.1 (fun q0 q1=>k (.tuple [.str q0, .int .i64 q1]) [])
def Qj (fn:nY R):=aC Qh Qi (U3 fn)
section
variable (bQ:nX R)
def W9:List (lC R) := [(28,true,(A5 bQ av)),(78,true,(lastI_S R))]
def JO (x1:ag) (k0:ag→Int→Option R):Option R :=
 cx (decide (x1.length≤281474976710656)) (bif (decide ((EV x1 35)<(0:Int)))then (k0 ([]:ag) 60)else (cx (decide ((0:Int)≤(EV x1 35))&&decide ((EV x1 35)≤x1.length)) (cx (decide ((0:Int)≤(EV x1 35))) (bQ ((x1.drop 0).take ((EV x1 35).toNat - 0)) (fun y2=>bif (!(y2==x1))then (k0 ([]:ag) 60)else (cx (decide ((0:Int)≤(EV x1 35))&&decide ((EV x1 35)≤x1.length)) (cx (decide ((0:Int)≤(EV x1 35))) (k0 ((x1.drop 0).take ((EV x1 35).toNat - 0)) 0))))))))
theorem seal_Open_ok:dD (R:=R) tt (W9 bQ) nJ false Tryz.f31 Qh Qi (U3 (JO bQ)):=fun x y k=>by kernel_rfl
end
theorem seal_Open_EOk:cq (R:=R) Tryz.prog (W9 (R:=R) bQ) := .c (wX R) <| .p (lastI_ok) <| .n
def db:nY R:=fun x1 k0=>JO bQ x1 k0
theorem Qk (R:Type):jQ Tryz.prog 31 (Qj (db (R:=R))):=bj TT mixed (seal_Open_EOk (R:=R)) rfl rfl rfl rfl bX (seal_Open_ok bQ)
end Go.Proofs.YtidfokedcnhahaaGreatDoor
/-
 Functions of the program as pure Lean functions, and the ties; printed by wip/tools/emit.py.
-/
set_option maxRecDepth 100000
namespace Go.Proofs.YtidfokedcnhahaaGreatDoor
open Go Go.aq
variable {R:Type}
end Go.Proofs.YtidfokedcnhahaaGreatDoor
/-
 Functions of the program as pure Lean functions, and the ties; printed by wip/tools/emit.py.
-/
set_option maxRecDepth 100000
namespace Go.Proofs.YtidfokedcnhahaaGreatDoor
open Go Go.aq
variable {R:Type}
end Go.Proofs.YtidfokedcnhahaaGreatDoor
/-
 Functions of the program as pure Lean functions, and the ties; printed by wip/tools/emit.py.
-/
set_option maxRecDepth 100000
namespace Go.Proofs.YtidfokedcnhahaaGreatDoor
open Go Go.aq
variable {R:Type}
/-! ### humpyard/humpyardlaw07.Fit -/
abbrev Cp (R:Type):Type:=ag→(ag→Option R)→Option R
abbrev Ql:List cY := [.leaf (.str)]
abbrev Qm:List aY := []
def U4 (fn:Cp R):jR R Ql Qm:=fun x y k=>fn x.1 (fun q0=>k (.str q0) [])
def Qn (fn:Cp R):=aC Ql Qm (U4 fn)
abbrev Em (R:Type):Type:=Nat→Nat→Int→(List Int)→(Nat→(List Int)→Option R)→Option R
def Aa:Hint := { live := [3,4],own := [],rows := [],cells := [],drop := [],out := [2,3] }
abbrev pM:Type:=Nat×Int×(List Int)
def Cq:pM→St:=fun d=>⟨U 3 (.row 0 d.1 :: .int .i64 d.2.1::U 25 ([])), [.row (.int .u8) d.2.2]⟩
def En (K:Ex→St→Option R) (q0:Nat) (q1:List Int):Option R:=K (.exit 0) ⟨U 3 (.row 0 q0::U 26 ([])), [.row (.int .u8) q1]⟩
abbrev uE:List cY:=PU 3 (.leaf (.row 0) :: .leaf (.int .i64)::PU 25 ([]))
abbrev uF:List aY := [.row (.int .u8)]
def Ou (x:cY.cC uE) (y:aY.cC uF):Nat:=(Int.natAbs x.2.2.2.2.1+List.length y.1+64)
def XO (x:cY.cC uE) (y:aY.cC uF):pM:=(x.2.2.2.1,x.2.2.2.2.1,y.1)
def LC (L:Em R):D7 R uE uF:=fun x y K=>L (Ou x y) x.2.2.2.1 x.2.2.2.2.1 y.1 (En K)
section
variable (dP:Em R)
def Ab (fb:Nat→Int→(List Int)→Option R) (x2:Nat) (x3:Int) (x4:List Int) (e0:Nat→(List Int)→Option R):Option R :=
 bif (decide (x3<(x2:Int)))then (cx (decide ((0:Int)≤x3)&&decide (x3<x2)) (cx (decide (x3.toNat<x4.length)) (cx (decide ((0:Int)≤(Int.tmod (IntKind.i64.wrap (x4.getD x3.toNat (Ty.bR (.int .u8)))) 20))&&decide ((Int.tmod (IntKind.i64.wrap (x4.getD x3.toNat (Ty.bR (.int .u8)))) 20)<(20:Int))) (cx (decide ((0:Int)≤x3)&&decide (x3<x2)) (cx (decide (x3.toNat<x4.length)) (fb x2 (IntKind.i64.wrap (x3+1)) (x4.set x3.toNat ((([97,98,99,120,121,122,65,66,67,88,89,90,48,49,56,57,95,46,58,45]:ag).getD ((Int.tmod (IntKind.i64.wrap (x4.getD x3.toNat (Ty.bR (.int .u8)))) 20).toNat) 0).toNat:Int))))))))else (e0 x2 x4)
def Ov (K:Ex→St→Option R) (rc:pM→Option R) (d:pM):Option R:=Ab (fun z0 z1 z2=>rc (z0,z1,z2)) d.1 d.2.1 d.2.2 (En K)
def Fb:Nat→Option (Hint×dE R):=fun i=>match i with
 | 3=>some (Aa,(dR uE uF (LC dP) lL))
 | _=>none
theorem Tv (K:Ex→St→Option R) (rc:St→Option R) (d:pM):roundOf tt (dx []) (Fb dP) 0 ((aN (bm Tryz.f33)).getD 0 .skip) Aa (Cq d) rc K=Ov K (fun d=>rc (Cq d)) d:=by kernel_rfl
def Qo (x1:ag) (k0:ag→Option R):Option R :=
 cx (decide ((0:Int)≤(min (x1.length:Int) 15))&&decide ((min (x1.length:Int) 15)≤x1.length)) (cx (decide ((0:Int)≤(min (x1.length:Int) 15))) (cx (decide (1+((x1.drop 0).take ((min (x1.length:Int) 15).toNat - 0)).length≤9223372036854775807)) (dP (Int.natAbs 1+List.length (gR (([110]:ag)++((x1.drop 0).take ((min (x1.length:Int) 15).toNat - 0))))+64) ((([110]:ag)++((x1.drop 0).take ((min (x1.length:Int) 15).toNat - 0))).length) 1 (gR (([110]:ag)++((x1.drop 0).take ((min (x1.length:Int) 15).toNat - 0)))) (fun y5 y6=>k0 (List.map (fun n:Int=>UInt8.ofNat n.toNat) y6:ag)))))
theorem law07_Fit_ok:dD (R:=R) tt [] (Fb dP) false Tryz.f33 Ql Qm (U4 (Qo dP)):=fun x y k=>by kernel_rfl
end
def dP:Em R
 | 0,_,_,_,_=>none
 | n+1,jb,jf,jl,e0=>Ab (fun jb jf jl=>dP n jb jf jl e0) jb jf jl e0
def Ow (K:Ex→St→Option R) (n:Nat) (d:pM):Option R:=dP n d.1 d.2.1 d.2.2 (En K)
theorem Wd (other:dE R) (ho:kg tt (dx []) (Fb (R:=R) dP) 0 ((aN (bm Tryz.f33)).getD 0 .skip) Aa other):kg tt (dx []) (Fb (R:=R) dP) 0 ((aN (bm Tryz.f33)).getD 0 .skip) Aa (dR uE uF (LC (dP)) other) :=
 ei (A:=Ow) ho (gd Cq (Ov) (Ow) (fun _ _=>by kernel_rfl) (Tv dP) (fun _ _ _=>by kernel_rfl)) Ou XO (fun _ _=>by kernel_rfl) (fun _ _ _=>by kernel_rfl)
def gb:Cp R:=fun x1 k0=>Qo dP x1 k0
theorem XP (R:Type):∀a∈aN (bm Tryz.f33),je tt (dx []) (Fb (R:=R) dP) 0 a:=by
 refine gQ 1 (by kernel_rfl) fun i hi => ?_
 match i,hi with
 | 0,_=>exact dH (by kernel_rfl) (Wd _ fk)
 | n+1,hi=>omega
theorem Qp (R:Type):jQ Tryz.prog 33 (Qn (gb (R:=R))):=bj TT mixed .n rfl rfl rfl rfl (XP R) (law07_Fit_ok dP)
end Go.Proofs.YtidfokedcnhahaaGreatDoor
/-
 Functions of the program as pure Lean functions, and the ties; printed by wip/tools/emit.py.
-/
set_option maxRecDepth 100000
namespace Go.Proofs.YtidfokedcnhahaaGreatDoor
open Go Go.aq
variable {R:Type}
end Go.Proofs.YtidfokedcnhahaaGreatDoor
/-
 Functions of the program as pure Lean functions, and the ties; printed by wip/tools/emit.py.
-/
set_option maxRecDepth 100000
namespace Go.Proofs.YtidfokedcnhahaaGreatDoor
open Go Go.aq
variable {R:Type}
end Go.Proofs.YtidfokedcnhahaaGreatDoor
/-
 Functions of the program as pure Lean functions, and the ties; printed by wip/tools/emit.py.
-/
set_option maxRecDepth 100000
namespace Go.Proofs.YtidfokedcnhahaaGreatDoor
open Go Go.aq
variable {R:Type}
end Go.Proofs.YtidfokedcnhahaaGreatDoor
/-
 Functions of the program as pure Lean functions, and the ties; printed by wip/tools/emit.py.
-/
set_option maxRecDepth 100000
namespace Go.Proofs.YtidfokedcnhahaaGreatDoor
open Go Go.aq
variable {R:Type}
end Go.Proofs.YtidfokedcnhahaaGreatDoor
/-
 Functions of the program as pure Lean functions, and the ties; printed by wip/tools/emit.py.
-/
set_option maxRecDepth 100000
namespace Go.Proofs.YtidfokedcnhahaaGreatDoor
open Go Go.aq
variable {R:Type}
end Go.Proofs.YtidfokedcnhahaaGreatDoor
/-
 Functions of the program as pure Lean functions, and the ties; printed by wip/tools/emit.py.
-/
set_option maxRecDepth 100000
namespace Go.Proofs.YtidfokedcnhahaaGreatDoor
open Go Go.aq
variable {R:Type}
end Go.Proofs.YtidfokedcnhahaaGreatDoor
/-
 Functions of the program as pure Lean functions, and the ties; printed by wip/tools/emit.py.
-/
set_option maxRecDepth 100000
namespace Go.Proofs.YtidfokedcnhahaaGreatDoor
open Go Go.aq
variable {R:Type}
/-! ### (*humpyard/humpyardref04.Parser).is -/
abbrev jV (R:Type):Type:=ag→(List Token)→Int→Int→(Bool→(List Token)→Int→Int→Option R)→Option R
abbrev tM:List cY := [.leaf (.ptr 0 0), .leaf (.str)]
abbrev tN:List aY := [.cells [.sl .token, .int .i64, .int .i64]]
def A6 (fn:jV R):jR R tM tN:=fun x y k=>fn x.2.1 y.1.1 y.1.2.1 y.1.2.2.1 (fun q0 q1 q2 q3=>k (.bool q0) [.cells [.sl .token q1 .no, .int .i64 q2, .int .i64 q3]])
def tO (fn:jV R):=aC tM tN (A6 fn)
section
def Cr (x1:ag) (x2:List Token) (x3:Int) (x4:Int) (k0:Bool→(List Token)→Int→Int→Option R):Option R :=
 bif (x4==0)then (cx (decide ((0:Int)≤x3)&&decide (x3<x2.length)) (bif ((x2.getD x3.toNat (Ty.bR .token)).kind==1)then (cx (decide ((0:Int)≤x3)&&decide (x3<x2.length)) (bif ((x2.getD x3.toNat (Ty.bR .token)).text==x1)then (k0 ((x2.getD x3.toNat (Ty.bR .token)).text==x1) x2 (IntKind.i64.wrap (x3+1)) x4)else (k0 ((x2.getD x3.toNat (Ty.bR .token)).text==x1) x2 x3 x4)))else (k0 false x2 x3 x4)))else (k0 false x2 x3 x4)
theorem LD:dD (R:=R) (tt.mode [.json]) [] nJ false Tryz.f152 tM tN (A6 Cr):=fun x y k=>by kernel_rfl
end
def aH:jV R:=fun x1 x2 x3 x4 k0=>Cr x1 x2 x3 x4 k0
theorem xJ (R:Type):jQ Tryz.prog 152 (tO (aH (R:=R))):=bj (TT.mode [.json]) mixed .n rfl rfl rfl rfl bX (LD)
/-! ### (*humpyard/humpyardref04.Parser).must -/
abbrev lH (R:Type):Type:=ag→(List Token)→Int→Int→((List Token)→Int→Int→Option R)→Option R
abbrev qS:List cY := [.leaf (.ptr 0 0), .leaf (.str)]
abbrev qT:List aY := [.cells [.sl .token, .int .i64, .int .i64]]
def xK (fn:lH R):jR R qS qT:=fun x y k=>fn x.2.1 y.1.1 y.1.2.1 y.1.2.2.1 (fun q0 q1 q2=>k (.tuple []) [.cells [.sl .token q0 .no, .int .i64 q1, .int .i64 q2]])
def zK (fn:lH R):=aC qS qT (xK fn)
section
variable (aH:jV R)
def zM:List (lC R) := [(152,false,(tO aH av))]
def zN (x1:ag) (x2:List Token) (x3:Int) (x4:Int) (k0:(List Token)→Int→Int→Option R):Option R :=
 aH x1 x2 x3 x4 (fun y5 y6 y7 y8=>bif (!y5)then (bif (y8==0)then (k0 y6 y7 40)else (k0 y6 y7 y8))else (k0 y6 y7 y8))
theorem I9:dD (R:=R) (tt.mode [.json]) (zM aH) nJ false Tryz.f153 qS qT (xK (zN aH)):=fun x y k=>by kernel_rfl
end
theorem H9:cq (R:=R) Tryz.prog (zM (R:=R) aH) := .d (xJ R) rfl <| .n
def aZ:lH R:=fun x1 x2 x3 x4 k0=>zN aH x1 x2 x3 x4 k0
theorem He (R:Type):jQ Tryz.prog 153 (zK (aZ (R:=R))):=bj (TT.mode [.json]) mixed (H9 (R:=R)) rfl rfl rfl rfl bX (I9 aH)
end Go.Proofs.YtidfokedcnhahaaGreatDoor
/-
 Functions of the program as pure Lean functions, and the ties; printed by wip/tools/emit.py.
-/
set_option maxRecDepth 100000
namespace Go.Proofs.YtidfokedcnhahaaGreatDoor
open Go Go.aq
variable {R:Type}
/-! ### (*humpyard/humpyardref04.Parser).value -/
abbrev bh (R:Type):Type:=Int→(List Token)→Int→Int→(Json→(List Token)→Int→Int→Option R)→Option R
abbrev dU:List cY := [.leaf (.ptr 0 0), .leaf (.int .i64)]
abbrev dV:List aY := [.cells [.sl .token, .int .i64, .int .i64]]
def cI (fn:bh R):jR R dU dV:=fun x y k=>fn x.2.1 y.1.1 y.1.2.1 y.1.2.2.1 (fun q0 q1 q2 q3=>k (.agg [.int .i64 q0.kind, .int .i64 q0.num.ao, .int .i64 q0.num.exp, .str q0.text, .sl .str q0.names .no, .sl .json q0.items .no]) [.cells [.sl .token q1 .no, .int .i64 q2, .int .i64 q3]])
def Ja (fn:bh R):=aC dU dV (cI fn)
abbrev lp (R:Type):Type:=Nat→Int→Bool→(List Token)→Int→Int→Int→Int→Int→ag→Int→Int→Int→ag→Nat→(List Json)→((List Token)→Int→Int→Int→Int→Int→ag→Int→Int→Int→ag→Nat→(List Json)→Option R)→Option R
abbrev lq (R:Type):Type:=Nat→Int→Bool→(List Token)→Int→Int→Int→Int→Int→ag→Int→Int→Int→ag→(List ag)→Nat→(List Json)→((List Token)→Int→Int→Int→Int→Int→ag→Int→Int→Int→ag→(List ag)→Nat→(List Json)→Option R)→Option R
def iY:Hint := { live := [0,1,4,7,8],own := [],rows := [],cells := [(2,5, .json,true)],drop := [],out := [4,7] }
abbrev fc:Type:=Int×Bool×(List Token)×Int×Int×Int×Int×Int×ag×Int×Int×Int×ag×Nat×(List Json)
def kQ:fc→St:=fun d=>⟨.ptr 0 0 :: .int .i64 d.1::U 2 (.ptr 1 0::U 2 (.ptr 2 0 :: .bool d.2.1::U 184 ([]))), [.cells [.sl .token d.2.2.1 .no, .int .i64 d.2.2.2.1, .int .i64 d.2.2.2.2.1], .cells [.int .i64 d.2.2.2.2.2.1, .int .i64 d.2.2.2.2.2.2.1, .int .i64 d.2.2.2.2.2.2.2.1, .str d.2.2.2.2.2.2.2.2.1, .cv, .cv], .cells [.int .i64 d.2.2.2.2.2.2.2.2.2.1, .int .i64 d.2.2.2.2.2.2.2.2.2.2.1, .int .i64 d.2.2.2.2.2.2.2.2.2.2.2.1, .str d.2.2.2.2.2.2.2.2.2.2.2.2.1, .cv, .row 3 d.2.2.2.2.2.2.2.2.2.2.2.2.2.1], .row .json d.2.2.2.2.2.2.2.2.2.2.2.2.2.2]⟩
def lr (K:Ex→St→Option R) (q0:List Token) (q1:Int) (q2:Int) (q3:Int) (q4:Int) (q5:Int) (q6:ag) (q7:Int) (q8:Int) (q9:Int) (q10:ag) (q11:Nat) (q12:List Json):Option R:=K (.exit 1) ⟨U 4 (.ptr 1 0::U 2 (.ptr 2 0::U 185 ([]))), [.cells [.sl .token q0 .no, .int .i64 q1, .int .i64 q2], .cells [.int .i64 q3, .int .i64 q4, .int .i64 q5, .str q6, .cv, .cv], .cells [.int .i64 q7, .int .i64 q8, .int .i64 q9, .str q10, .cv, .row 3 q11], .row .json q12]⟩
abbrev gv:List cY := .leaf (.ptr 0 0) :: .leaf (.int .i64)::PU 2 (.leaf (.ptr 1 0)::PU 2 (.leaf (.ptr 2 0) :: .leaf (.bool)::PU 184 ([])))
abbrev gw:List aY := [.cells [.sl .token, .int .i64, .int .i64], .cells [.int .i64, .int .i64, .int .i64, .str, .cv, .cv], .cells [.int .i64, .int .i64, .int .i64, .str, .cv, .row 3], .row .json]
def sN (x:cY.cC gv) (y:aY.cC gw):Nat:=(Int.natAbs x.2.1+List.length y.1.1+Int.natAbs y.1.2.1+Int.natAbs y.1.2.2.1+Int.natAbs y.2.1.1+Int.natAbs y.2.1.2.1+Int.natAbs y.2.1.2.2.1+List.length y.2.1.2.2.2.1+Int.natAbs y.2.2.1.1+Int.natAbs y.2.2.1.2.1+Int.natAbs y.2.2.1.2.2.1+List.length y.2.2.1.2.2.2.1+List.length y.2.2.2.1+64)
def Eo (x:cY.cC gv) (y:aY.cC gw):fc:=(x.2.1,(t8 x).1,y.1.1,y.1.2.1,y.1.2.2.1,y.2.1.1,y.2.1.2.1,y.2.1.2.2.1,y.2.1.2.2.2.1,y.2.2.1.1,y.2.2.1.2.1,y.2.2.1.2.2.1,y.2.2.1.2.2.2.1,y.2.2.1.2.2.2.2.2.1,y.2.2.2.1)
def rQ (L:lp R):D7 R gv gw:=fun x y K=>L (sN x y) x.2.1 ((t8 x).1) y.1.1 y.1.2.1 y.1.2.2.1 y.2.1.1 y.2.1.2.1 y.2.1.2.2.1 y.2.1.2.2.2.1 y.2.2.1.1 y.2.2.1.2.1 y.2.2.1.2.2.1 y.2.2.1.2.2.2.1 y.2.2.1.2.2.2.2.2.1 y.2.2.2.1 (lr K)
def iZ:Hint := { live := [0,1,4,10,11],own := [],rows := [],cells := [(2,4, .str,false),(2,5, .json,true)],drop := [],out := [4,10] }
abbrev fe:Type:=Int×Bool×(List Token)×Int×Int×Int×Int×Int×ag×Int×Int×Int×ag×(List ag)×Nat×(List Json)
def kR:fe→St:=fun d=>⟨.ptr 0 0 :: .int .i64 d.1::U 2 (.ptr 1 0::U 5 (.ptr 2 0 :: .bool d.2.1::U 181 ([]))), [.cells [.sl .token d.2.2.1 .no, .int .i64 d.2.2.2.1, .int .i64 d.2.2.2.2.1], .cells [.int .i64 d.2.2.2.2.2.1, .int .i64 d.2.2.2.2.2.2.1, .int .i64 d.2.2.2.2.2.2.2.1, .str d.2.2.2.2.2.2.2.2.1, .cv, .cv], .cells [.int .i64 d.2.2.2.2.2.2.2.2.2.1, .int .i64 d.2.2.2.2.2.2.2.2.2.2.1, .int .i64 d.2.2.2.2.2.2.2.2.2.2.2.1, .str d.2.2.2.2.2.2.2.2.2.2.2.2.1, .sl .str d.2.2.2.2.2.2.2.2.2.2.2.2.2.1 (.own 3), .row 4 d.2.2.2.2.2.2.2.2.2.2.2.2.2.2.1], .tok, .row .json d.2.2.2.2.2.2.2.2.2.2.2.2.2.2.2]⟩
def lu (K:Ex→St→Option R) (q0:List Token) (q1:Int) (q2:Int) (q3:Int) (q4:Int) (q5:Int) (q6:ag) (q7:Int) (q8:Int) (q9:Int) (q10:ag) (q11:List ag) (q12:Nat) (q13:List Json):Option R:=K (.exit 3) ⟨U 4 (.ptr 1 0::U 5 (.ptr 2 0::U 182 ([]))), [.cells [.sl .token q0 .no, .int .i64 q1, .int .i64 q2], .cells [.int .i64 q3, .int .i64 q4, .int .i64 q5, .str q6, .cv, .cv], .cells [.int .i64 q7, .int .i64 q8, .int .i64 q9, .str q10, .sl .str q11 (.own 3), .row 4 q12], .tok, .row .json q13]⟩
abbrev gC:List cY := .leaf (.ptr 0 0) :: .leaf (.int .i64)::PU 2 (.leaf (.ptr 1 0)::PU 5 (.leaf (.ptr 2 0) :: .leaf (.bool)::PU 181 ([])))
abbrev gD:List aY := [.cells [.sl .token, .int .i64, .int .i64], .cells [.int .i64, .int .i64, .int .i64, .str, .cv, .cv], .cells [.int .i64, .int .i64, .int .i64, .str, .Ye .str 3, .row 4], .tok, .row .json]
def sO (x:cY.cC gC) (y:aY.cC gD):Nat:=(Int.natAbs x.2.1+List.length y.1.1+Int.natAbs y.1.2.1+Int.natAbs y.1.2.2.1+Int.natAbs y.2.1.1+Int.natAbs y.2.1.2.1+Int.natAbs y.2.1.2.2.1+List.length y.2.1.2.2.2.1+Int.natAbs y.2.2.1.1+Int.natAbs y.2.2.1.2.1+Int.natAbs y.2.2.1.2.2.1+List.length y.2.2.1.2.2.2.1+List.length y.2.2.1.2.2.2.2.1+List.length y.2.2.2.2.1+64)
def Ep (x:cY.cC gC) (y:aY.cC gD):fe:=(x.2.1,(t8 x).2.2.2.1,y.1.1,y.1.2.1,y.1.2.2.1,y.2.1.1,y.2.1.2.1,y.2.1.2.2.1,y.2.1.2.2.2.1,y.2.2.1.1,y.2.2.1.2.1,y.2.2.1.2.2.1,y.2.2.1.2.2.2.1,y.2.2.1.2.2.2.2.1,y.2.2.1.2.2.2.2.2.1,y.2.2.2.2.1)
def rR (L:lq R):D7 R gC gD:=fun x y K=>L (sO x y) x.2.1 ((t8 x).2.2.2.1) y.1.1 y.1.2.1 y.1.2.2.1 y.2.1.1 y.2.1.2.1 y.2.1.2.2.1 y.2.1.2.2.2.1 y.2.2.1.1 y.2.2.1.2.1 y.2.2.1.2.2.1 y.2.2.1.2.2.2.1 y.2.2.1.2.2.2.2.1 y.2.2.1.2.2.2.2.2.1 y.2.2.2.2.1 (lu K)
section
variable (aH:jV R) (aZ:lH R) (af:bh R) (iv:Hc R) (aV:lp R) (aW:lq R)
def dW:List (lC R) := [(152,false,(tO aH av)),(153,false,(zK aZ av)),(114,false,(aC dU dV (cI af) av)),(154,true,(W5 iv av))]
def sP (fb:Int→Bool→(List Token)→Int→Int→Int→Int→Int→ag→Int→Int→Int→ag→Nat→(List Json)→Option R) (x11:Int) (x12:Bool) (VS:List Token) (Xr:Int) (n9:Int) (uP:Int) (ml:Int) (wu:Int) (Dk:ag) (Gh:Int) (Sr:Int) (x22:Int) (x23:ag) (x24:Nat) (x25:List Json) (e0:(List Token)→Int→Int→Int→Int→Int→ag→Int→Int→Int→ag→Nat→(List Json)→Option R):Option R :=
 bif (!x12)then (bif (n9==0)then (af (IntKind.i64.wrap (x11+1)) VS Xr n9 (fun FB O7 WV OI=>cx (decide ((x25.length+1)*88≤140737488355328)) (aH ([44]:ag) O7 WV OI (fun XC HT y33 y34=>bif (!XC)then (aZ ([93]:ag) HT y33 y34 (fun y35 y36 y37=>fb x11 true y35 y36 y37 uP ml wu Dk Gh Sr x22 x23 (x25.length+1) (x25++([(⟨FB.kind,⟨FB.num.ao,FB.num.exp⟩,FB.text,FB.names,FB.items⟩:Json)]:List Json))))else (fb x11 x12 HT y33 y34 uP ml wu Dk Gh Sr x22 x23 (x25.length+1) (x25++([(⟨FB.kind,⟨FB.num.ao,FB.num.exp⟩,FB.text,FB.names,FB.items⟩:Json)]:List Json)))))))else (e0 VS Xr n9 uP ml wu Dk Gh Sr x22 x23 x24 x25))else (e0 VS Xr n9 uP ml wu Dk Gh Sr x22 x23 x24 x25)
def sQ (K:Ex→St→Option R) (rc:fc→Option R) (d:fc):Option R:=sP aH aZ af (fun z0 z1 z2 z3 z4 z5 z6 z7 z8 z9 Xs xT z12 z13 z14=>rc (z0,z1,z2,z3,z4,z5,z6,z7,z8,z9,Xs,xT,z12,z13,z14)) d.1 d.2.1 d.2.2.1 d.2.2.2.1 d.2.2.2.2.1 d.2.2.2.2.2.1 d.2.2.2.2.2.2.1 d.2.2.2.2.2.2.2.1 d.2.2.2.2.2.2.2.2.1 d.2.2.2.2.2.2.2.2.2.1 d.2.2.2.2.2.2.2.2.2.2.1 d.2.2.2.2.2.2.2.2.2.2.2.1 d.2.2.2.2.2.2.2.2.2.2.2.2.1 d.2.2.2.2.2.2.2.2.2.2.2.2.2.1 d.2.2.2.2.2.2.2.2.2.2.2.2.2.2 (lr K)
def sR (fb:Int→Bool→(List Token)→Int→Int→Int→Int→Int→ag→Int→Int→Int→ag→(List ag)→Nat→(List Json)→Option R) (x55:Int) (x56:Bool) (x57:List Token) (x58:Int) (x59:Int) (x60:Int) (x61:Int) (x62:Int) (x63:ag) (x64:Int) (x65:Int) (x66:Int) (x67:ag) (x68:List ag) (x69:Nat) (x70:List Json) (e0:(List Token)→Int→Int→Int→Int→Int→ag→Int→Int→Int→ag→(List ag)→Nat→(List Json)→Option R):Option R :=
 bif (!x56)then (bif (x59==0)then (cx (decide ((0:Int)≤x58)&&decide (x58<x57.length)) (bif ((x57.getD x58.toNat (Ty.bR .token)).kind != 2)then (e0 x57 x58 40 x60 x61 x62 x63 x64 x65 x66 x67 x68 x69 x70)else (iv x68 ((x57.getD x58.toNat (Ty.bR .token)).text) (fun y72=>bif y72 then (e0 x57 x58 42 x60 x61 x62 x63 x64 x65 x66 x67 x68 x69 x70)else (aZ ([58]:ag) x57 (IntKind.i64.wrap (x58+1)) x59 (fun y73 y74 y75=>cx (decide ((x68.length+1)*16≤140737488355328)) (af (IntKind.i64.wrap (x55+1)) y73 y74 y75 (fun y76 y77 y78 y79=>cx (decide ((x70.length+1)*88≤140737488355328)) (aH ([44]:ag) y77 y78 y79 (fun y80 y81 y82 y83=>bif (!y80)then (aZ ([125]:ag) y81 y82 y83 (fun y84 y85 y86=>fb x55 true y84 y85 y86 x60 x61 x62 x63 x64 x65 x66 x67 (x68++([(x57.getD x58.toNat (Ty.bR .token)).text]:List ag)) (x70.length+1) (x70++([(⟨y76.kind,⟨y76.num.ao,y76.num.exp⟩,y76.text,y76.names,y76.items⟩:Json)]:List Json))))else (fb x55 x56 y81 y82 y83 x60 x61 x62 x63 x64 x65 x66 x67 (x68++([(x57.getD x58.toNat (Ty.bR .token)).text]:List ag)) (x70.length+1) (x70++([(⟨y76.kind,⟨y76.num.ao,y76.num.exp⟩,y76.text,y76.names,y76.items⟩:Json)]:List Json)))))))))))))else (e0 x57 x58 x59 x60 x61 x62 x63 x64 x65 x66 x67 x68 x69 x70))else (e0 x57 x58 x59 x60 x61 x62 x63 x64 x65 x66 x67 x68 x69 x70)
def sS (K:Ex→St→Option R) (rc:fe→Option R) (d:fe):Option R:=sR aH aZ af iv (fun z0 z1 z2 z3 z4 z5 z6 z7 z8 z9 Xs xT z12 z13 z14 z15=>rc (z0,z1,z2,z3,z4,z5,z6,z7,z8,z9,Xs,xT,z12,z13,z14,z15)) d.1 d.2.1 d.2.2.1 d.2.2.2.1 d.2.2.2.2.1 d.2.2.2.2.2.1 d.2.2.2.2.2.2.1 d.2.2.2.2.2.2.2.1 d.2.2.2.2.2.2.2.2.1 d.2.2.2.2.2.2.2.2.2.1 d.2.2.2.2.2.2.2.2.2.2.1 d.2.2.2.2.2.2.2.2.2.2.2.1 d.2.2.2.2.2.2.2.2.2.2.2.2.1 d.2.2.2.2.2.2.2.2.2.2.2.2.2.1 d.2.2.2.2.2.2.2.2.2.2.2.2.2.2.1 d.2.2.2.2.2.2.2.2.2.2.2.2.2.2.2 (lu K)
def eQ:Nat→Option (Hint×dE R):=fun i=>match i with
 | 22=>some (iY,(dR gv gw (rQ aV) lL))
 | 31=>some (iZ,(dR gC gD (rR aW) lL))
 | _=>none
theorem Bw (K:Ex→St→Option R) (rc:St→Option R) (d:fc):roundOf (tt.mode [.json]) (dx (dW aH aZ af iv)) (eQ aV aW) 1 ((aN (bm Tryz.f114)).getD 0 .skip) iY (kQ d) rc K=sQ aH aZ af K (fun d=>rc (kQ d)) d:=by kernel_rfl
theorem Bx (K:Ex→St→Option R) (rc:St→Option R) (d:fe):roundOf (tt.mode [.json]) (dx (dW aH aZ af iv)) (eQ aV aW) 1 ((aN (bm Tryz.f114)).getD 1 .skip) iZ (kR d) rc K=sS aH aZ af iv K (fun d=>rc (kR d)) d:=by kernel_rfl
def xL (x1:Int) (x2:List Token) (x3:Int) (x4:Int) (k0:Json→(List Token)→Int→Int→Option R):Option R :=
 bif (x4 != 0)then (k0 (⟨0,⟨0,0⟩,([]:ag),([]:List ag),([]:List Json)⟩:Json) x2 x3 x4)else (cx (decide ((0:Int)≤x3)&&decide (x3<x2.length)) (let j102:=fun (z5:Bool)=>let j101:=bif (decide (x1>(16:Int)))then (k0 (⟨0,⟨0,0⟩,([]:ag),([]:List ag),([]:List Json)⟩:Json) x2 x3 41)else (bif ((x2.getD x3.toNat (Ty.bR .token)).kind==2)then (k0 (⟨5,⟨0,0⟩,(x2.getD x3.toNat (Ty.bR .token)).text,([]:List ag),([]:List Json)⟩:Json) x2 (IntKind.i64.wrap (x3+1)) x4)else (bif ((x2.getD x3.toNat (Ty.bR .token)).kind==3)then (k0 (⟨4,⟨(x2.getD x3.toNat (Ty.bR .token)).num.ao,(x2.getD x3.toNat (Ty.bR .token)).num.exp⟩,([]:ag),([]:List ag),([]:List Json)⟩:Json) x2 (IntKind.i64.wrap (x3+1)) x4)else (bif ((x2.getD x3.toNat (Ty.bR .token)).kind==4)then (k0 (⟨((mm .str (.int .i64) ((x2.getD x3.toNat (Ty.bR .token)).text) ([(([110,117,108,108]:ag),1),(([102,97,108,115,101]:ag),2),(([116,114,117,101]:ag),3)]:List (ag×Int))):Int),⟨0,0⟩,([]:ag),([]:List ag),([]:List Json)⟩:Json) x2 (IntKind.i64.wrap (x3+1)) x4)else (bif ((x2.getD x3.toNat (Ty.bR .token)).text==([91]:ag))then (aH ([93]:ag) x2 (IntKind.i64.wrap (x3+1)) x4 (fun y7 y8 y9 oc=>aV (Int.natAbs x1+List.length y8+Int.natAbs y9+Int.natAbs oc+Int.natAbs 0+Int.natAbs 0+Int.natAbs 0+List.length ([]:ag)+Int.natAbs 6+Int.natAbs 0+Int.natAbs 0+List.length ([]:ag)+List.length ([]:List Json)+64) x1 y7 y8 y9 oc 0 0 0 ([]:ag) 6 0 0 ([]:ag) 0 ([]:List Json) (fun y38 Zv y40 y41 y42 y43 y44 y45 y46 y47 y48 y49 y50=>k0 (⟨y45,⟨y46,y47⟩,y48,([]:List ag),y50⟩:Json) y38 Zv y40)))else (aH ([125]:ag) x2 (IntKind.i64.wrap (x3+1)) x4 (fun y51 y52 y53 y54=>aW (Int.natAbs x1+List.length y52+Int.natAbs y53+Int.natAbs y54+Int.natAbs 0+Int.natAbs 0+Int.natAbs 0+List.length ([]:ag)+Int.natAbs 7+Int.natAbs 0+Int.natAbs 0+List.length ([]:ag)+List.length ([]:List ag)+List.length ([]:List Json)+64) x1 y51 y52 y53 y54 0 0 0 ([]:ag) 7 0 0 ([]:ag) ([]:List ag) 0 ([]:List Json) (fun y87 y88 y89 y90 y91 y92 y93 y94 y95 y96 y97 y98 y99 y100=>k0 (⟨y94,⟨y95,y96⟩,y97,y98,y100⟩:Json) y87 y88 y89))))))); bif ((x2.getD x3.toNat (Ty.bR .token)).kind==5)then (k0 (⟨0,⟨0,0⟩,([]:ag),([]:List ag),([]:List Json)⟩:Json) x2 x3 40)else (bif ((x2.getD x3.toNat (Ty.bR .token)).kind==1)then (bif (!z5)then (k0 (⟨0,⟨0,0⟩,([]:ag),([]:List ag),([]:List Json)⟩:Json) x2 x3 40)else (j101))else (j101)); bif ((x2.getD x3.toNat (Ty.bR .token)).kind==1)then (bif ((x2.getD x3.toNat (Ty.bR .token)).text==([91]:ag))then (j102 true)else (j102 ((x2.getD x3.toNat (Ty.bR .token)).text==([123]:ag))))else (j102 false)))
theorem Ia:dD (R:=R) (tt.mode [.json]) (dW aH aZ af iv) (eQ aV aW) false Tryz.f114 dU dV (cI (xL aH aV aW)):=fun x y k=>by kernel_rfl
end
theorem Hf (af:bh R) (im:aq.Spec.Ok Tryz.prog 114 (aC dU dV (cI af) av)):cq (R:=R) Tryz.prog (dW (R:=R) aH aZ af iv) := .d (xJ R) rfl <| .d (He R) rfl <| .f im rfl <| .c (ZP R) <| .n
def aV (af:bh R):lp R
 | 0,_,_,_,_,_,_,_,_,_,_,_,_,_,_,_,_=>none
 | n+1,jb,jf,jl,uk,Ea,FJ,RN,RO,RP,RQ,xU,J5,Td,Te,x14',e0=>sP aH aZ af (fun jb jf jl uk Ea FJ RN RO RP RQ xU J5 Td Te x14'=>aV af n jb jf jl uk Ea FJ RN RO RP RQ xU J5 Td Te x14' e0) jb jf jl uk Ea FJ RN RO RP RQ xU J5 Td Te x14' e0
def sT (af:bh R) (K:Ex→St→Option R) (n:Nat) (d:fc):Option R:=aV af n d.1 d.2.1 d.2.2.1 d.2.2.2.1 d.2.2.2.2.1 d.2.2.2.2.2.1 d.2.2.2.2.2.2.1 d.2.2.2.2.2.2.2.1 d.2.2.2.2.2.2.2.2.1 d.2.2.2.2.2.2.2.2.2.1 d.2.2.2.2.2.2.2.2.2.2.1 d.2.2.2.2.2.2.2.2.2.2.2.1 d.2.2.2.2.2.2.2.2.2.2.2.2.1 d.2.2.2.2.2.2.2.2.2.2.2.2.2.1 d.2.2.2.2.2.2.2.2.2.2.2.2.2.2 (lr K)
def aW (af:bh R):lq R
 | 0,_,_,_,_,_,_,_,_,_,_,_,_,_,_,_,_,_=>none
 | n+1,jb,jf,jl,uk,Ea,FJ,RN,RO,RP,RQ,xU,J5,Td,Te,x14',x15',e0=>sR aH aZ af iv (fun jb jf jl uk Ea FJ RN RO RP RQ xU J5 Td Te x14' x15'=>aW af n jb jf jl uk Ea FJ RN RO RP RQ xU J5 Td Te x14' x15' e0) jb jf jl uk Ea FJ RN RO RP RQ xU J5 Td Te x14' x15' e0
def sU (af:bh R) (K:Ex→St→Option R) (n:Nat) (d:fe):Option R:=aW af n d.1 d.2.1 d.2.2.1 d.2.2.2.1 d.2.2.2.2.1 d.2.2.2.2.2.1 d.2.2.2.2.2.2.1 d.2.2.2.2.2.2.2.1 d.2.2.2.2.2.2.2.2.1 d.2.2.2.2.2.2.2.2.2.1 d.2.2.2.2.2.2.2.2.2.2.1 d.2.2.2.2.2.2.2.2.2.2.2.1 d.2.2.2.2.2.2.2.2.2.2.2.2.1 d.2.2.2.2.2.2.2.2.2.2.2.2.2.1 d.2.2.2.2.2.2.2.2.2.2.2.2.2.2.1 d.2.2.2.2.2.2.2.2.2.2.2.2.2.2.2 (lu K)
theorem Dc (af:bh R) (other:dE R) (ho:kg (tt.mode [.json]) (dx (dW (R:=R) aH aZ af iv)) (eQ (R:=R) (aV af) (aW af)) 1 ((aN (bm Tryz.f114)).getD 0 .skip) iY other):kg (tt.mode [.json]) (dx (dW (R:=R) aH aZ af iv)) (eQ (R:=R) (aV af) (aW af)) 1 ((aN (bm Tryz.f114)).getD 0 .skip) iY (dR gv gw (rQ (aV af)) other) :=
 ei (A:=sT af) ho (gd kQ (sQ aH aZ af) (sT af) (fun _ _=>by kernel_rfl) (Bw aH aZ af iv (aV af) (aW af)) (fun _ _ _=>by kernel_rfl)) sN Eo (fun _ _=>by kernel_rfl) (fun _ _ _=>by kernel_rfl)
theorem Dd (af:bh R) (other:dE R) (ho:kg (tt.mode [.json]) (dx (dW (R:=R) aH aZ af iv)) (eQ (R:=R) (aV af) (aW af)) 1 ((aN (bm Tryz.f114)).getD 1 .skip) iZ other):kg (tt.mode [.json]) (dx (dW (R:=R) aH aZ af iv)) (eQ (R:=R) (aV af) (aW af)) 1 ((aN (bm Tryz.f114)).getD 1 .skip) iZ (dR gC gD (rR (aW af)) other) :=
 ei (A:=sU af) ho (gd kR (sS aH aZ af iv) (sU af) (fun _ _=>by kernel_rfl) (Bx aH aZ af iv (aV af) (aW af)) (fun _ _ _=>by kernel_rfl)) sO Ep (fun _ _=>by kernel_rfl) (fun _ _ _=>by kernel_rfl)
def pB (af:bh R):bh R:=fun x1 x2 x3 x4 k0=>xL aH (aV af) (aW af) x1 x2 x3 x4 k0
theorem Fc (R:Type) (af:bh R) (im:aq.Spec.Ok Tryz.prog 114 (aC dU dV (cI af) av)):∀a∈aN (bm Tryz.f114),je (tt.mode [.json]) (dx (dW (R:=R) aH aZ af iv)) (eQ (R:=R) (aV af) (aW af)) 1 a:=by
 refine gQ 2 (by kernel_rfl) fun i hi => ?_
 match i,hi with
 | 0,_=>exact dH (by kernel_rfl) (Dc af _ fk)
 | 1,_=>exact dH (by kernel_rfl) (Dd af _ fk)
 | n+2,hi=>omega
theorem Fe (R:Type) (af:bh R) (im:aq.Spec.Ok Tryz.prog 114 (aC dU dV (cI af) av)):jQ Tryz.prog 114 (Ja (pB af)):=bj (TT.mode [.json]) mixed (Hf af im) rfl rfl rfl rfl (Fc R af im) (Ia aH aZ af iv (aV af) (aW af))
def dX:Nat→bh R
 | 0,_,_,_,_,_=>none
 | n+1,jb,jf,jl,uk,k0'=>pB (dX n) jb jf jl uk k0'
theorem We (n:Nat):dX (R:=R) (n+1)=pB (dX n):=by kernel_rfl
theorem F4 (R:Type):∀n,aq.Spec.Ok Tryz.prog 114 (aC dU dV (cI (dX (R:=R) n)) av) :=
 AT (run:=fun n=>cI (dX (R:=R) n)) (fun x y k=>by kernel_rfl) fun n hyp=>Fe R (dX n) hyp av (fA _)
def A7:bh R:=fun x1 x2 x3 x4 k0=>dX 40 x1 x2 x3 x4 k0
theorem F5 (R:Type):cI (R:=R) A7=fun x y k=>cI (dX 40) x y k:=by kernel_rfl
theorem XQ (R:Type) (other:aq.Spec R) (ho:aq.Spec.Ok Tryz.prog 114 other):aq.Spec.Ok Tryz.prog 114 (aC dU dV (cI A7) other) :=
 HH (Le (run:=fun n=>cI (dX (R:=R) n)) (fun x y=>40) ho (F4 R)) (F5 R)
end Go.Proofs.YtidfokedcnhahaaGreatDoor
/-
 Functions of the program as pure Lean functions, and the ties; printed by wip/tools/emit.py.
-/
set_option maxRecDepth 100000
namespace Go.Proofs.YtidfokedcnhahaaGreatDoor
open Go Go.aq
variable {R:Type}
end Go.Proofs.YtidfokedcnhahaaGreatDoor
namespace Go.Proofs.YtidfokedcnhahaaGreatDoor.Pu
open Go Go.aq
theorem tmod_zero {m:Int} (h0:m≠0) (h:Int.tmod m 10=0):∃c:Int,m=10*c∧c≠0∧Int.tdiv m 10=c:=by
 obtain ⟨c,rfl⟩:=Int.dvd_of_tmod_eq_zero h
 exact ⟨c,rfl,by rintro rfl; exact h0 rfl,Int.mul_tdiv_cancel_left c (by decide)⟩
theorem made_loops {R:Type} (d:fT):∀(j:Nat) (m e:Int) (n:Nat),m≠0→m.natAbs<10 ^ j→m.natAbs<n→0≤e→e+j≤19→yo m →
  ∃m' e':Int,yo m'∧yo e'∧(∀e0,bL (R:=R) n m e d e0=e0 m' e' d)∧(∀e0 e1,cE (R:=R) n m e d e0 e1=e0 m' e' d):=by
 intro j
 induction j with
 | zero=>intro m e n h0 h; omega
 | succ j ih =>
  intro m e n h0 h hn he hej hm
  obtain ⟨hm1,hm2⟩:=hm
  cases n with
  | zero=>omega
  | succ n =>
   by_cases hq:Int.tmod m 10=0
   ·have c1:(Int.tmod m 10==0)=true:=by simpa using hq
    have c2:decide (e>(1099511627776:Int))=false:=decide_eq_false (by omega)
    obtain ⟨c,hc,Se,hcd⟩:=tmod_zero h0 hq
    have hp:10 ^ (j+1)=10*10 ^ j:=by rw[Nat.pow_succ,Nat.mul_comm]
    obtain ⟨m',e',g1,g2,g3,g4⟩:=ih c (e+1) n Se (by rw[hp]at h; omega) (by omega) (by omega) (by omega) ⟨by omega,by omega⟩
    refine ⟨m',e',g1,g2,fun e0 => ?_,fun e0 e1 => ?_⟩
    ·show fV (fun a b c=>bL n a b c e0) m e d e0=_
     unfold fV
     rw[c1,cond_true,hcd,cK (by omega) (by omega),cK (by omega) (by omega)]
     exact g3 e0
    ·show jU (fun a b c=>cE n a b c e0 e1) m e d e0 e1=_
     unfold jU
     rw[c1,cond_true,c2,cond_false,hcd,cK (by omega) (by omega),cK (by omega) (by omega)]
     exact g4 e0 e1
   ·have c1:(Int.tmod m 10==0)=false:=by simpa using hq
    refine ⟨m,e,⟨hm1,hm2⟩,⟨by omega,by omega⟩,fun e0 => ?_,fun e0 e1 => ?_⟩
    ·show fV _ m e d e0=_
     unfold fV
     rw[c1,cond_false]
    ·show jU _ m e d e0 e1=_
     unfold jU
     rw[c1,cond_false]
theorem made_same {R:Type} (n:Int) (hn:yo n):∃(d:fT) (b:Bool),yo d.ao∧yo d.exp∧(∀k:fT→Bool→Option R,bk n 0 k=k d b)∧∀k:fT→Bool→Option R,tK n 0 k=k d b:=by
 obtain ⟨hn1,hn2⟩:=hn
 by_cases h0:n=0
 ·subst h0
  exact ⟨⟨0,0⟩,true,⟨by decide,by decide⟩,⟨by decide,by decide⟩,fun k=>rfl,fun k=>rfl⟩
 ·have c0:(n==0)=false:=by simpa using h0
  have c5:min (0:Int) 1000000=0:=by decide
  obtain ⟨m',e',g1,g2,g3,g4⟩:=made_loops (R:=R) ⟨0,0⟩ 19 n 0 (Int.natAbs n+Int.natAbs 0+fT.fu (⟨0,0⟩:fT)+64) h0 (by omega) (by omega) (by omega) (by omega) ⟨hn1,hn2⟩
  by_cases hb:(-1000000000000000≤m'∧m'≤1000000000000000)∧(-9≤e'∧e'≤9)
  ·refine ⟨⟨m',e'⟩,true,g1,g2,fun k => ?_,fun k => ?_⟩
   ·unfold bk kn
    rw[c0,cond_false,c5,g3,Hq]
    have d1:(decide (-1000000000000000≤m')&&decide (m'≤1000000000000000))=true:=by simp; omega
    have d2:(decide (-9≤e')&&decide (e'≤9))=true:=by simp; omega
    rw[d1,Bool.not_true,cond_false,Hq,d2,Bool.not_true,cond_false]
   ·unfold tK tJ
    rw[c0,cond_false,g4]
    have d1:decide (m'>(1000000000000000:Int))=false:=decide_eq_false (by omega)
    have d2:decide (m'<(-1000000000000000:Int))=false:=decide_eq_false (by omega)
    have d3:decide (e'>(9:Int))=false:=decide_eq_false (by omega)
    have d4:decide (e'<(-9:Int))=false:=decide_eq_false (by omega)
    simp only[d1,d2,d3,d4,cond_false]
  ·refine ⟨⟨0,0⟩,false,⟨by decide,by decide⟩,⟨by decide,by decide⟩,fun k => ?_,fun k => ?_⟩
   ·unfold bk kn
    rw[c0,cond_false,c5,g3,Hq]
    by_cases hm : -1000000000000000≤m'∧m'≤1000000000000000
    ·have d1:(decide (-1000000000000000≤m')&&decide (m'≤1000000000000000))=true:=by simp; omega
     have d2:(decide (-9≤e')&&decide (e'≤9))=false:=by simp only[Bool.and_eq_false_imp,decide_eq_true_eq,decide_eq_false_iff_not]; omega
     rw[d1,Bool.not_true,cond_false,Hq,d2,Bool.not_false,cond_true]
    ·have d1:(decide (-1000000000000000≤m')&&decide (m'≤1000000000000000))=false:=by simp only[Bool.and_eq_false_imp,decide_eq_true_eq,decide_eq_false_iff_not]; omega
     rw[d1,Bool.not_false,cond_true]
   ·unfold tK tJ
    rw[c0,cond_false,g4]
    by_cases d1:m'>(1000000000000000:Int)
    ·simp only[decide_eq_true d1,cond_true]
    ·by_cases d2:m'<(-1000000000000000:Int)
     ·simp only[decide_eq_false d1,decide_eq_true d2,cond_true,cond_false]
     ·by_cases d3:e'>(9:Int)
      ·simp only[decide_eq_false d1,decide_eq_false d2,decide_eq_true d3,cond_true,cond_false]
      ·have d4:e'<(-9:Int):=by omega
       simp only[decide_eq_false d1,decide_eq_false d2,decide_eq_false d3,decide_eq_true d4,cond_true,cond_false]
end Go.Proofs.YtidfokedcnhahaaGreatDoor.Pu
set_option maxRecDepth 100000
namespace Go.Proofs.YtidfokedcnhahaaGreatDoor
open Go Go.aq
end Go.Proofs.YtidfokedcnhahaaGreatDoor
namespace Go.Proofs.YtidfokedcnhahaaGreatDoor
open Go Go.aq
end Go.Proofs.YtidfokedcnhahaaGreatDoor
set_option maxRecDepth 100000
namespace Go.Proofs.YtidfokedcnhahaaGreatDoor
open Go Go.aq
theorem strip_ex:∀(b:Nat) (m:Int),m≠0→m.natAbs<b→∃(j:Nat) (u:Int),m=u*10 ^ j∧Int.tmod u 10≠0
 | 0,m,_,h=>by omega
 | b+1,m,h0,hb=>by
  by_cases h:Int.tmod m 10=0
  ·have hd:m=Int.tdiv m 10*10:=by have:=Int.tmod_add_mul_tdiv m 10; omega
   have hn:(Int.tdiv m 10).natAbs<m.natAbs:=by rw[Int.natAbs_tdiv]; show m.natAbs / 10<m.natAbs; omega
   obtain ⟨j,u,e,hu⟩:=strip_ex b (Int.tdiv m 10) (by omega) (by omega)
   refine ⟨j+1,u,?_,hu⟩
   rw[Int.pow_succ,←Int.mul_assoc,←e]
   exact hd
  ·exact ⟨0,m,by simp,h⟩
theorem strip_one:∀(i j:Nat) (u v:Int),Int.tmod u 10≠0→Int.tmod v 10≠0→u*10 ^ i=v*10 ^ j→i=j∧u=v
 | 0,0,u,v,_,_,h=>⟨rfl,by simpa using h⟩
 | 0,j+1,u,v,hu,_,h=>by
  exfalso
  apply hu
  have:u=(v*10 ^ j)*10:=by rw[Int.pow_succ,←Int.mul_assoc]at h; simpa using h
  rw[this]
  exact Int.mul_tmod_left _ _
 | i+1,0,u,v,_,hv,h=>by
  exfalso
  apply hv
  have:v=(u*10 ^ i)*10:=by rw[Int.pow_succ,←Int.mul_assoc]at h; simpa using h.symm
  rw[this]
  exact Int.mul_tmod_left _ _
 | i+1,j+1,u,v,hu,hv,h=>by
  have h2:u*10 ^ i=v*10 ^ j:=by
   rw[Int.pow_succ,Int.pow_succ,←Int.mul_assoc,←Int.mul_assoc]at h
   omega
  obtain ⟨h3,h4⟩:=strip_one i j u v hu hv h2
  exact ⟨by omega,h4⟩
theorem Rq (j:Nat):(1:Int)≤10 ^ j:=by
 induction j with
 | zero=>simp
 | succ j ih=>rw[Int.pow_succ]; omega
theorem Tw (u:Int) (j:Nat):u.natAbs≤(u*10 ^ j).natAbs:=by
 rw[Int.natAbs_mul]
 have h:=Rq j
 have:1≤((10:Int) ^ j).natAbs:=by omega
 exact Nat.le_mul_of_pos_right _ this
theorem noughts_le (u:Int) (hu:u≠0):∀j:Nat,j≤(u*10 ^ j).natAbs:=by
 intro j
 rw[Int.natAbs_mul]
 have h1:1≤u.natAbs:=by omega
 have h2:j≤((10:Int) ^ j).natAbs:=by
  induction j with
  | zero=>simp
  | succ j ih =>
   have:=Rq j
   rw[Int.pow_succ,Int.natAbs_mul]
   show j+1≤((10:Int) ^ j).natAbs*10
   omega
 calc j≤((10:Int) ^ j).natAbs:=h2
  _≤u.natAbs*((10:Int) ^ j).natAbs:=Nat.le_mul_of_pos_left _ h1
theorem noughts_pow (u:Int) (hu:u≠0) (j:Nat):2 ^ j≤(u*10 ^ j).natAbs:=by
 rw[Int.natAbs_mul]
 have h2:∀j:Nat,2 ^ j≤((10:Int) ^ j).natAbs:=by
  intro j
  induction j with
  | zero=>simp
  | succ j ih =>
   rw[Int.pow_succ,Int.natAbs_mul,Nat.pow_succ]
   show 2 ^ j*2≤((10:Int) ^ j).natAbs*10
   omega
 exact Nat.le_trans (h2 j) (Nat.le_mul_of_pos_left _ (by omega))
theorem ZW {u:Int} (hu:u≠0) {j:Nat} (hb:yo (u*10 ^ j)):j<64:=by
 have h:=noughts_pow u hu j
 unfold yo at hb
 rcases Nat.lt_or_ge j 64 with h1|h1
 ·exact h1
 ·have h2:(2:Nat) ^ 64≤2 ^ j:=Nat.pow_le_pow_right (by omega) h1
  have h3:(2:Nat) ^ 64=18446744073709551616:=rfl
  omega
theorem V9 {R:Type} (d:fT) (e0:Int→Int→fT→Option R):∀(j n:Nat) (u x:Int),j<n→Int.tmod u 10≠0→yo (u*10 ^ j) → -9223372036854775808≤x→x+j≤4000000000000000000 →
  bL n (u*10 ^ j) x d e0=e0 u (x+j) d:=by
 intro j
 induction j with
 | zero =>
  intro n u x hn hu hb h1 h2
  obtain ⟨m,rfl⟩:∃m,n=m+1:=⟨n - 1,by omega⟩
  have e:bL (m+1) (u*10 ^ 0) x d e0=fV (fun jb jf jl=>bL m jb jf jl e0) (u*10 ^ 0) x d e0:=rfl
  rw[e]
  unfold fV
  have e1:u*10 ^ 0=u:=by simp
  have e2:(Int.tmod u 10==0)=false:=by rw[beq_eq_false_iff_ne]; exact hu
  rw[e1,e2,cond_false]
  simp
 | succ j ih =>
  intro n u x hn hu hb h1 h2
  obtain ⟨m,rfl⟩:∃m,n=m+1:=⟨n - 1,by omega⟩
  have e:bL (m+1) (u*10 ^ (j+1)) x d e0=fV (fun jb jf jl=>bL m jb jf jl e0) (u*10 ^ (j+1)) x d e0:=rfl
  rw[e]
  unfold fV
  have ep:u*10 ^ (j+1)=u*10 ^ j*10:=by rw[Int.pow_succ,Int.mul_assoc]
  unfold yo at hb
  rw[ep]at hb ⊢
  have e1:(Int.tmod (u*10 ^ j*10) 10==0)=true:=by rw[Int.mul_tmod_left]; rfl
  have e2:Int.tdiv (u*10 ^ j*10) 10=u*10 ^ j:=Int.mul_tdiv_cancel _ (by omega)
  rw[e1,cond_true,e2,cK (n:=u*10 ^ j) (by omega) (by omega),cK (n:=x+1) (by omega) (by omega)]
  show bL m (u*10 ^ j) (x+1) d e0=_
  rw[ih m u (x+1) (by omega) hu (by unfold yo; omega) (by omega) (by omega)]
  have:x+1+(j:Int)=x+((j+1:Nat):Int):=by omega
  rw[this]
theorem LF {R:Type} (a b c:Int) (k:Bool→Option R):az a b c k=k (decide (a≤b)&&decide (b≤c)):=by
 have e:az a b c k=mu a b c k:=rfl
 rw[e]
 unfold mu
 by_cases h1:a≤b
 ·rw[aQ h1]; first|rfl|simp
 ·rw[cu h1]; first|rfl|simp
def Xa (u x:Int):fT×Bool:=if -1000000000000000≤u∧u≤1000000000000000 ∧ -9≤x∧x≤9 then (⟨u,x⟩,true)else (⟨0,0⟩,false)
theorem make_ok {R:Type} (u:Int) (j:Nat) (x:Int) (hu:Int.tmod u 10≠0) (hb:yo (u*10 ^ j)) (h1 : -9223372036854775808≤x) (h2:x≤1000000) (k:fT→Bool→Option R) :
  bk (u*10 ^ j) x k=k (Xa u (x+j)).1 (Xa u (x+j)).2:=by
 have e:bk (u*10 ^ j) x k=kn az bL (u*10 ^ j) x k:=rfl
 rw[e]
 unfold kn
 have hu0:u≠0:=by rintro rfl; exact hu rfl
 have ha:=Tw u j
 have hn:=noughts_le u hu0 j
 have h64:=ZW hu0 hb
 have h0:(u*10 ^ j==0)=false:=by rw[beq_eq_false_iff_ne]; omega
 have hm:min x 1000000=x:=Int.min_eq_left h2
 unfold yo at hb
 rw[h0,cond_false,hm,V9 _ _ j _ u x (by omega) hu (by unfold yo; exact hb) h1 (by omega)]
 rw[LF]
 unfold Xa
 by_cases c1 : -1000000000000000≤u∧u≤1000000000000000
 ·rw[aQ c1.1,aQ c1.2]
  simp only[Bool.and_self,Bool.not_true,cond_false]
  rw[LF]
  by_cases c2 : -9≤x+(j:Int)∧x+(j:Int)≤9
  ·rw[aQ c2.1,aQ c2.2,if_pos ⟨c1.1,c1.2,c2.1,c2.2⟩]
   rfl
  ·rw[if_neg (fun h=>c2 h.2.2)]
   have:(decide (-9≤x+(j:Int))&&decide (x+(j:Int)≤9))=false:=by
    rw[Bool.and_eq_false_iff,decide_eq_false_iff_not,decide_eq_false_iff_not]; omega
   rw[this]
   rfl
 ·rw[if_neg (fun h=>c1 ⟨h.1,h.2.1⟩)]
  have:(decide (-1000000000000000≤u)&&decide (u≤1000000000000000))=false:=by
   rw[Bool.and_eq_false_iff,decide_eq_false_iff_not,decide_eq_false_iff_not]; omega
  rw[this]
  rfl
theorem Wf {R:Type} (x:Int) (k:fT→Bool→Option R):bk 0 x k=k ⟨0,0⟩ true:=by
 have e:bk 0 x k=kn az bL 0 x k:=rfl
 rw[e]
 rfl
theorem right_mk {R:Type} {u x:Int} (hu:Int.tmod u 10≠0) (h : -1000000000000000≤u∧u≤1000000000000000 ∧ -9≤x∧x≤9) (k:Bool→Option R):bS ⟨u,x⟩ k=k true:=by
 have e:bS ⟨u,x⟩ k=jy az ⟨u,x⟩ k:=rfl
 rw[e]
 unfold jy
 have hu0:u≠0:=by rintro rfl; exact hu rfl
 have e1:(u==0)=false:=by rw[beq_eq_false_iff_ne]; exact hu0
 have e2:(Int.tmod u 10 != 0)=true:=bne_iff_ne.2 hu
 simp only[e1,e2,cond_false,cond_true,LF]
 rw[aQ h.1,aQ h.2.1,aQ h.2.2.1,aQ h.2.2.2]
 rfl
end Go.Proofs.YtidfokedcnhahaaGreatDoor
/-
 Functions of the program as pure Lean functions, and the ties; printed by wip/tools/emit.py.
-/
set_option maxRecDepth 100000
namespace Go.Proofs.YtidfokedcnhahaaGreatDoor
open Go Go.aq
variable {R:Type}
/-! ### slices.Min[[]int,int] -/
abbrev qw (R:Type):Type:=(List Int)→(Int→Option R)→Option R
abbrev yw:List cY := [.leaf (.sl (.int .i64))]
abbrev yx:List aY := []
def Ff (fn:qw R):jR R yw yx:=fun x y k=>fn x.1 (fun q0=>k (.int .i64 q0) [])
def Gv (fn:qw R):=aC yw yx (Ff fn)
abbrev qU (R:Type):Type:=Nat→(List Int)→Int→Int→(Int→Option R)→Option R
def mR:Hint := { live := [0,3,4],own := [],rows := [],cells := [],drop := [],out := [2,3] }
abbrev iw:Type:=(List Int)×Int×Int
def pC:iw→St:=fun d=>⟨.sl (.int .i64) d.1 .no::U 2 (.int .i64 d.2.1 :: .int .i64 d.2.2::U 20 ([])), []⟩
def qV (K:Ex→St→Option R) (q0:Int):Option R:=K (.exit 0) ⟨U 3 (.int .i64 q0::U 21 ([])), []⟩
abbrev jW:List cY := .leaf (.sl (.int .i64))::PU 2 (.leaf (.int .i64) :: .leaf (.int .i64)::PU 20 ([]))
abbrev jX:List aY := []
def A8 (x:cY.cC jW) (y:aY.cC jX):Nat:=(List.length x.1+Int.natAbs x.2.2.2.1+Int.natAbs x.2.2.2.2.1+64)
def LG (x:cY.cC jW) (y:aY.cC jX):iw:=(x.1,x.2.2.2.1,x.2.2.2.2.1)
def zO (L:qU R):D7 R jW jX:=fun x y K=>L (A8 x y) x.1 x.2.2.2.1 x.2.2.2.2.1 (qV K)
section
variable (cf:qU R)
def mS (fb:(List Int)→Int→Int→Option R) (x2:List Int) (x3:Int) (x4:Int) (e0:Int→Option R):Option R :=
 bif (decide (x4<(x2.length:Int)))then (cx (decide ((0:Int)≤x4)&&decide (x4<x2.length)) (fb x2 (min x3 (x2.getD x4.toNat (Ty.bR (.int .i64)))) (IntKind.i64.wrap (x4+1))))else (e0 x3)
def A9 (K:Ex→St→Option R) (rc:iw→Option R) (d:iw):Option R:=mS (fun z0 z1 z2=>rc (z0,z1,z2)) d.1 d.2.1 d.2.2 (qV K)
def nF:Nat→Option (Hint×dE R):=fun i=>match i with
 | 5=>some (mR,(dR jW jX (zO cf) lL))
 | _=>none
theorem Ib (K:Ex→St→Option R) (rc:St→Option R) (d:iw):roundOf tt (dx []) (nF cf) 0 ((aN (bm Tryz.f89)).getD 0 .skip) mR (pC d) rc K=A9 K (fun d=>rc (pC d)) d:=by kernel_rfl
def yy (x1:List Int) (k0:Int→Option R):Option R :=
 bif (decide ((x1.length:Int)<(1:Int)))then (none)else (cx (decide ((0:Int)<x1.length)) (cf (List.length x1+Int.natAbs (x1.getD 0 (Ty.bR (.int .i64)))+Int.natAbs 1+64) x1 (x1.getD 0 (Ty.bR (.int .i64))) 1 (fun y5=>k0 y5)))
theorem Qq:dD (R:=R) tt [] (nF cf) false Tryz.f89 yw yx (Ff (yy cf)):=fun x y k=>by kernel_rfl
end
def cf:qU R
 | 0,_,_,_,_=>none
 | n+1,jb,jf,jl,e0=>mS (fun jb jf jl=>cf n jb jf jl e0) jb jf jl e0
def Ba (K:Ex→St→Option R) (n:Nat) (d:iw):Option R:=cf n d.1 d.2.1 d.2.2 (qV K)
theorem Ks (other:dE R) (ho:kg tt (dx []) (nF (R:=R) cf) 0 ((aN (bm Tryz.f89)).getD 0 .skip) mR other):kg tt (dx []) (nF (R:=R) cf) 0 ((aN (bm Tryz.f89)).getD 0 .skip) mR (dR jW jX (zO (cf)) other) :=
 ei (A:=Ba) ho (gd pC (A9) (Ba) (fun _ _=>by kernel_rfl) (Ib cf) (fun _ _ _=>by kernel_rfl)) A8 LG (fun _ _=>by kernel_rfl) (fun _ _ _=>by kernel_rfl)
def fJ:qw R:=fun x1 k0=>yy cf x1 k0
theorem LH (R:Type):∀a∈aN (bm Tryz.f89),je tt (dx []) (nF (R:=R) cf) 0 a:=by
 refine gQ 1 (by kernel_rfl) fun i hi => ?_
 match i,hi with
 | 0,_=>exact dH (by kernel_rfl) (Ks _ fk)
 | n+1,hi=>omega
theorem Nn (R:Type):jQ Tryz.prog 89 (Gv (fJ (R:=R))):=bj TT mixed .n rfl rfl rfl rfl (LH R) (Qq cf)
/-! ### slices.Max[[]int,int] -/
abbrev qx (R:Type):Type:=(List Int)→(Int→Option R)→Option R
abbrev yz:List cY := [.leaf (.sl (.int .i64))]
abbrev yA:List aY := []
def Fg (fn:qx R):jR R yz yA:=fun x y k=>fn x.1 (fun q0=>k (.int .i64 q0) [])
def Gw (fn:qx R):=aC yz yA (Fg fn)
abbrev qW (R:Type):Type:=Nat→(List Int)→Int→Int→(Int→Option R)→Option R
def mT:Hint := { live := [0,3,4],own := [],rows := [],cells := [],drop := [],out := [2,3] }
abbrev iz:Type:=(List Int)×Int×Int
def pD:iz→St:=fun d=>⟨.sl (.int .i64) d.1 .no::U 2 (.int .i64 d.2.1 :: .int .i64 d.2.2::U 20 ([])), []⟩
def qX (K:Ex→St→Option R) (q0:Int):Option R:=K (.exit 0) ⟨U 3 (.int .i64 q0::U 21 ([])), []⟩
abbrev jY:List cY := .leaf (.sl (.int .i64))::PU 2 (.leaf (.int .i64) :: .leaf (.int .i64)::PU 20 ([]))
abbrev jZ:List aY := []
def Bb (x:cY.cC jY) (y:aY.cC jZ):Nat:=(List.length x.1+Int.natAbs x.2.2.2.1+Int.natAbs x.2.2.2.2.1+64)
def LI (x:cY.cC jY) (y:aY.cC jZ):iz:=(x.1,x.2.2.2.1,x.2.2.2.2.1)
def zP (L:qW R):D7 R jY jZ:=fun x y K=>L (Bb x y) x.1 x.2.2.2.1 x.2.2.2.2.1 (qX K)
section
variable (cg:qW R)
def mU (fb:(List Int)→Int→Int→Option R) (x2:List Int) (x3:Int) (x4:Int) (e0:Int→Option R):Option R :=
 bif (decide (x4<(x2.length:Int)))then (cx (decide ((0:Int)≤x4)&&decide (x4<x2.length)) (fb x2 (max x3 (x2.getD x4.toNat (Ty.bR (.int .i64)))) (IntKind.i64.wrap (x4+1))))else (e0 x3)
def Bc (K:Ex→St→Option R) (rc:iz→Option R) (d:iz):Option R:=mU (fun z0 z1 z2=>rc (z0,z1,z2)) d.1 d.2.1 d.2.2 (qX K)
def nG:Nat→Option (Hint×dE R):=fun i=>match i with
 | 5=>some (mT,(dR jY jZ (zP cg) lL))
 | _=>none
theorem Ic (K:Ex→St→Option R) (rc:St→Option R) (d:iz):roundOf tt (dx []) (nG cg) 0 ((aN (bm Tryz.f90)).getD 0 .skip) mT (pD d) rc K=Bc K (fun d=>rc (pD d)) d:=by kernel_rfl
def yB (x1:List Int) (k0:Int→Option R):Option R :=
 bif (decide ((x1.length:Int)<(1:Int)))then (none)else (cx (decide ((0:Int)<x1.length)) (cg (List.length x1+Int.natAbs (x1.getD 0 (Ty.bR (.int .i64)))+Int.natAbs 1+64) x1 (x1.getD 0 (Ty.bR (.int .i64))) 1 (fun y5=>k0 y5)))
theorem Qr:dD (R:=R) tt [] (nG cg) false Tryz.f90 yz yA (Fg (yB cg)):=fun x y k=>by kernel_rfl
end
def cg:qW R
 | 0,_,_,_,_=>none
 | n+1,jb,jf,jl,e0=>mU (fun jb jf jl=>cg n jb jf jl e0) jb jf jl e0
def Bd (K:Ex→St→Option R) (n:Nat) (d:iz):Option R:=cg n d.1 d.2.1 d.2.2 (qX K)
theorem Kt (other:dE R) (ho:kg tt (dx []) (nG (R:=R) cg) 0 ((aN (bm Tryz.f90)).getD 0 .skip) mT other):kg tt (dx []) (nG (R:=R) cg) 0 ((aN (bm Tryz.f90)).getD 0 .skip) mT (dR jY jZ (zP (cg)) other) :=
 ei (A:=Bd) ho (gd pD (Bc) (Bd) (fun _ _=>by kernel_rfl) (Ic cg) (fun _ _ _=>by kernel_rfl)) Bb LI (fun _ _=>by kernel_rfl) (fun _ _ _=>by kernel_rfl)
def fK:qx R:=fun x1 k0=>yB cg x1 k0
theorem LJ (R:Type):∀a∈aN (bm Tryz.f90),je tt (dx []) (nG (R:=R) cg) 0 a:=by
 refine gQ 1 (by kernel_rfl) fun i hi => ?_
 match i,hi with
 | 0,_=>exact dH (by kernel_rfl) (Kt _ fk)
 | n+1,hi=>omega
theorem Np (R:Type):jQ Tryz.prog 90 (Gw (fK (R:=R))):=bj TT mixed .n rfl rfl rfl rfl (LJ R) (Qr cg)
/-! ### humpyard/state.Right -/
abbrev fL (R:Type):Type:=aq.State→(Bool→Option R)→Option R
abbrev Ku:List cY := [.agg [.int .i64, .int .i64, .str, .int .i64, .int .i64, .bool, .int .i64, .int .i64, .bool, .int .i64]]
abbrev Kv:List aY := []
def Qs (fn:fL R):jR R Ku Kv:=fun x y k=>fn (⟨x.1.1,x.1.2.1,x.1.2.2.1,x.1.2.2.2.1,x.1.2.2.2.2.1,x.1.2.2.2.2.2.1,x.1.2.2.2.2.2.2.1,x.1.2.2.2.2.2.2.2.1,(t8 x.1).1,(t8 x.1).2.1⟩:aq.State) (fun q0=>k (.bool q0) [])
def qY (fn:fL R):=aC Ku Kv (Qs fn)
section
variable (topic_Name:topic_Name_ty R) (fK:qx R) (fJ:qw R)
def SE:List (lC R) := [(61,true,(topic_Name_s topic_Name av)),(90,true,(Gw fK av)),(89,true,(Gv fJ av))]
def Kw (x1:aq.State) (k0:Bool→Option R):Option R :=
 topic_Name x1.bc (fun y2=>bif y2 then (fJ ([x1.header,x1.dc,x1.order,x1.update,x1.node,x1.seq,x1.accepted]:List Int) (fun y3=>bif (decide (y3≥(0:Int)))then (fK ([x1.header,x1.dc,x1.order,x1.update,x1.node,x1.seq,x1.accepted]:List Int) (fun y4=>bif (decide (y4≤(1000000000:Int)))then (bif ((Int.tmod x1.seq 2)==0)then (bif x1.live then (k0 true)else (k0 (!x1.bz)))else (k0 false))else (k0 false)))else (k0 false)))else (k0 false))
theorem ZX:dD (R:=R) tt (SE topic_Name fK fJ) nJ false Tryz.f41 Ku Kv (Qs (Kw topic_Name fK fJ)):=fun x y k=>by kernel_rfl
end
theorem XR:cq (R:=R) Tryz.prog (SE (R:=R) topic_Name fK fJ) := .c (topic_Name_S_ok R) <| .c (Np R) <| .c (Nn R) <| .n
def aE:fL R:=fun x1 k0=>Kw topic_Name fK fJ x1 k0
theorem ox (R:Type):jQ Tryz.prog 41 (qY (aE (R:=R))):=bj TT mixed (XR (R:=R)) rfl rfl rfl rfl bX (ZX topic_Name fK fJ)
end Go.Proofs.YtidfokedcnhahaaGreatDoor
/-
 Functions of the program as pure Lean functions, and the ties; printed by wip/tools/emit.py.
-/
set_option maxRecDepth 100000
namespace Go.Proofs.YtidfokedcnhahaaGreatDoor
open Go Go.aq
variable {R:Type}
/-! ### humpyard/state.number$1 -/
abbrev kS (R:Type):Type:=aq.State→(Json→aq.State→Option R)→Option R
abbrev uX:List cY := [.leaf (.ptr 0 0)]
abbrev uY:List aY := [.cells [.ptr 1 0], .cells [.int .i64, .int .i64, .str, .int .i64, .int .i64, .bool, .int .i64, .int .i64, .bool, .int .i64]]
def Cs (fn:kS R):jR R uX uY:=fun x y k=>fn (⟨y.2.1.1,y.2.1.2.1,y.2.1.2.2.1,y.2.1.2.2.2.1,y.2.1.2.2.2.2.1,y.2.1.2.2.2.2.2.1,y.2.1.2.2.2.2.2.2.1,y.2.1.2.2.2.2.2.2.2.1,(t8 y.2.1).1,(t8 y.2.1).2.1⟩:aq.State) (fun q0 q1=>k (.agg [.int .i64 q0.kind, .int .i64 q0.num.ao, .int .i64 q0.num.exp, .str q0.text, .sl .str q0.names .no, .sl .json q0.items .no]) [.cells [.ptr 1 0], .cells [.int .i64 q1.header, .int .i64 q1.dc, .str q1.bc, .int .i64 q1.order, .int .i64 q1.update, .bool q1.live, .int .i64 q1.node, .int .i64 q1.seq, .bool q1.bz, .int .i64 q1.accepted]])
def Dq (fn:kS R):=aC uX uY (Cs fn)
section
variable (bf:ko R)
def Dr:List (lC R) := [(48,true,(pW bf av))]
def uZ (x1:aq.State) (k0:Json→aq.State→Option R):Option R :=
 bf x1.header (fun y2=>k0 (⟨y2.kind,⟨y2.num.ao,y2.num.exp⟩,y2.text,y2.names,y2.items⟩:Json) x1)
theorem Nq:dD (R:=R) tt (Dr bf) nJ false Tryz.f174 uX uY (Cs (uZ bf)):=fun x y k=>by kernel_rfl
end
theorem LK:cq (R:=R) Tryz.prog (Dr (R:=R) bf) := .c (mv R) <| .n
def dm:kS R:=fun x1 k0=>uZ bf x1 k0
theorem Kx (R:Type):jQ Tryz.prog 174 (Dq (dm (R:=R))):=bj TT mixed (LK (R:=R)) rfl rfl rfl rfl bX (Nq bf)
/-! ### humpyard/state.number$1 -/
abbrev kT (R:Type):Type:=aq.State→(Json→aq.State→Option R)→Option R
abbrev u0:List cY := [.leaf (.ptr 0 0)]
abbrev u4:List aY := [.cells [.ptr 1 1], .cells [.int .i64, .int .i64, .str, .int .i64, .int .i64, .bool, .int .i64, .int .i64, .bool, .int .i64]]
def Ct (fn:kT R):jR R u0 u4:=fun x y k=>fn (⟨y.2.1.1,y.2.1.2.1,y.2.1.2.2.1,y.2.1.2.2.2.1,y.2.1.2.2.2.2.1,y.2.1.2.2.2.2.2.1,y.2.1.2.2.2.2.2.2.1,y.2.1.2.2.2.2.2.2.2.1,(t8 y.2.1).1,(t8 y.2.1).2.1⟩:aq.State) (fun q0 q1=>k (.agg [.int .i64 q0.kind, .int .i64 q0.num.ao, .int .i64 q0.num.exp, .str q0.text, .sl .str q0.names .no, .sl .json q0.items .no]) [.cells [.ptr 1 1], .cells [.int .i64 q1.header, .int .i64 q1.dc, .str q1.bc, .int .i64 q1.order, .int .i64 q1.update, .bool q1.live, .int .i64 q1.node, .int .i64 q1.seq, .bool q1.bz, .int .i64 q1.accepted]])
def Ds (fn:kT R):=aC u0 u4 (Ct fn)
section
variable (bf:ko R)
def Dt:List (lC R) := [(48,true,(pW bf av))]
def u6 (x1:aq.State) (k0:Json→aq.State→Option R):Option R :=
 bf x1.dc (fun y2=>k0 (⟨y2.kind,⟨y2.num.ao,y2.num.exp⟩,y2.text,y2.names,y2.items⟩:Json) x1)
theorem Nr:dD (R:=R) tt (Dt bf) nJ false Tryz.f174 u0 u4 (Ct (u6 bf)):=fun x y k=>by kernel_rfl
end
theorem LL:cq (R:=R) Tryz.prog (Dt (R:=R) bf) := .c (mv R) <| .n
def dn:kT R:=fun x1 k0=>u6 bf x1 k0
theorem Ky (R:Type):jQ Tryz.prog 174 (Ds (dn (R:=R))):=bj TT mixed (LL (R:=R)) rfl rfl rfl rfl bX (Nr bf)
/-! ### humpyard/state.text$1 -/
abbrev mB (R:Type):Type:=aq.State→(Json→aq.State→Option R)→Option R
abbrev yC:List cY := [.leaf (.ptr 0 0)]
abbrev yD:List aY := [.cells [.ptr 1 2], .cells [.int .i64, .int .i64, .str, .int .i64, .int .i64, .bool, .int .i64, .int .i64, .bool, .int .i64]]
def Fh (fn:mB R):jR R yC yD:=fun x y k=>fn (⟨y.2.1.1,y.2.1.2.1,y.2.1.2.2.1,y.2.1.2.2.2.1,y.2.1.2.2.2.2.1,y.2.1.2.2.2.2.2.1,y.2.1.2.2.2.2.2.2.1,y.2.1.2.2.2.2.2.2.2.1,(t8 y.2.1).1,(t8 y.2.1).2.1⟩:aq.State) (fun q0 q1=>k (.agg [.int .i64 q0.kind, .int .i64 q0.num.ao, .int .i64 q0.num.exp, .str q0.text, .sl .str q0.names .no, .sl .json q0.items .no]) [.cells [.ptr 1 2], .cells [.int .i64 q1.header, .int .i64 q1.dc, .str q1.bc, .int .i64 q1.order, .int .i64 q1.update, .bool q1.live, .int .i64 q1.node, .int .i64 q1.seq, .bool q1.bz, .int .i64 q1.accepted]])
def Gx (fn:mB R):=aC yC yD (Fh fn)
section
variable (uN:GQ R)
def Gy:List (lC R) := [(34,true,(WR uN av))]
def yE (x1:aq.State) (k0:Json→aq.State→Option R):Option R :=
 uN x1.bc (fun y2=>k0 (⟨y2.kind,⟨y2.num.ao,y2.num.exp⟩,y2.text,y2.names,y2.items⟩:Json) x1)
theorem Qt:dD (R:=R) tt (Gy uN) nJ false Tryz.f176 yC yD (Fh (yE uN)):=fun x y k=>by kernel_rfl
end
theorem OT:cq (R:=R) Tryz.prog (Gy (R:=R) uN) := .c (Zx R) <| .n
def ef:mB R:=fun x1 k0=>yE uN x1 k0
theorem Ns (R:Type):jQ Tryz.prog 176 (Gx (ef (R:=R))):=bj TT mixed (OT (R:=R)) rfl rfl rfl rfl bX (Qt uN)
/-! ### humpyard/state.number$1 -/
abbrev kU (R:Type):Type:=aq.State→(Json→aq.State→Option R)→Option R
abbrev u7:List cY := [.leaf (.ptr 0 0)]
abbrev va:List aY := [.cells [.ptr 1 3], .cells [.int .i64, .int .i64, .str, .int .i64, .int .i64, .bool, .int .i64, .int .i64, .bool, .int .i64]]
def Cu (fn:kU R):jR R u7 va:=fun x y k=>fn (⟨y.2.1.1,y.2.1.2.1,y.2.1.2.2.1,y.2.1.2.2.2.1,y.2.1.2.2.2.2.1,y.2.1.2.2.2.2.2.1,y.2.1.2.2.2.2.2.2.1,y.2.1.2.2.2.2.2.2.2.1,(t8 y.2.1).1,(t8 y.2.1).2.1⟩:aq.State) (fun q0 q1=>k (.agg [.int .i64 q0.kind, .int .i64 q0.num.ao, .int .i64 q0.num.exp, .str q0.text, .sl .str q0.names .no, .sl .json q0.items .no]) [.cells [.ptr 1 3], .cells [.int .i64 q1.header, .int .i64 q1.dc, .str q1.bc, .int .i64 q1.order, .int .i64 q1.update, .bool q1.live, .int .i64 q1.node, .int .i64 q1.seq, .bool q1.bz, .int .i64 q1.accepted]])
def Du (fn:kU R):=aC u7 va (Cu fn)
section
variable (bf:ko R)
def Dv:List (lC R) := [(48,true,(pW bf av))]
def vb (x1:aq.State) (k0:Json→aq.State→Option R):Option R :=
 bf x1.order (fun y2=>k0 (⟨y2.kind,⟨y2.num.ao,y2.num.exp⟩,y2.text,y2.names,y2.items⟩:Json) x1)
theorem Nt:dD (R:=R) tt (Dv bf) nJ false Tryz.f174 u7 va (Cu (vb bf)):=fun x y k=>by kernel_rfl
end
theorem LM:cq (R:=R) Tryz.prog (Dv (R:=R) bf) := .c (mv R) <| .n
def dp:kU R:=fun x1 k0=>vb bf x1 k0
theorem Kz (R:Type):jQ Tryz.prog 174 (Du (dp (R:=R))):=bj TT mixed (LM (R:=R)) rfl rfl rfl rfl bX (Nt bf)
/-! ### humpyard/state.number$1 -/
abbrev kV (R:Type):Type:=aq.State→(Json→aq.State→Option R)→Option R
abbrev vd:List cY := [.leaf (.ptr 0 0)]
abbrev ve:List aY := [.cells [.ptr 1 4], .cells [.int .i64, .int .i64, .str, .int .i64, .int .i64, .bool, .int .i64, .int .i64, .bool, .int .i64]]
def Cv (fn:kV R):jR R vd ve:=fun x y k=>fn (⟨y.2.1.1,y.2.1.2.1,y.2.1.2.2.1,y.2.1.2.2.2.1,y.2.1.2.2.2.2.1,y.2.1.2.2.2.2.2.1,y.2.1.2.2.2.2.2.2.1,y.2.1.2.2.2.2.2.2.2.1,(t8 y.2.1).1,(t8 y.2.1).2.1⟩:aq.State) (fun q0 q1=>k (.agg [.int .i64 q0.kind, .int .i64 q0.num.ao, .int .i64 q0.num.exp, .str q0.text, .sl .str q0.names .no, .sl .json q0.items .no]) [.cells [.ptr 1 4], .cells [.int .i64 q1.header, .int .i64 q1.dc, .str q1.bc, .int .i64 q1.order, .int .i64 q1.update, .bool q1.live, .int .i64 q1.node, .int .i64 q1.seq, .bool q1.bz, .int .i64 q1.accepted]])
def Dw (fn:kV R):=aC vd ve (Cv fn)
section
variable (bf:ko R)
def Dx:List (lC R) := [(48,true,(pW bf av))]
def vf (x1:aq.State) (k0:Json→aq.State→Option R):Option R :=
 bf x1.update (fun y2=>k0 (⟨y2.kind,⟨y2.num.ao,y2.num.exp⟩,y2.text,y2.names,y2.items⟩:Json) x1)
theorem Nu:dD (R:=R) tt (Dx bf) nJ false Tryz.f174 vd ve (Cv (vf bf)):=fun x y k=>by kernel_rfl
end
theorem LN:cq (R:=R) Tryz.prog (Dx (R:=R) bf) := .c (mv R) <| .n
def dq:kV R:=fun x1 k0=>vf bf x1 k0
theorem KA (R:Type):jQ Tryz.prog 174 (Dw (dq (R:=R))):=bj TT mixed (LN (R:=R)) rfl rfl rfl rfl bX (Nu bf)
/-! ### humpyard/state.flag$1 -/
abbrev mC (R:Type):Type:=aq.State→(Json→aq.State→Option R)→Option R
abbrev yF:List cY := [.leaf (.ptr 0 0)]
abbrev yG:List aY := [.cells [.ptr 1 5], .cells [.int .i64, .int .i64, .str, .int .i64, .int .i64, .bool, .int .i64, .int .i64, .bool, .int .i64]]
def Fi (fn:mC R):jR R yF yG:=fun x y k=>fn (⟨y.2.1.1,y.2.1.2.1,y.2.1.2.2.1,y.2.1.2.2.2.1,y.2.1.2.2.2.2.1,y.2.1.2.2.2.2.2.1,y.2.1.2.2.2.2.2.2.1,y.2.1.2.2.2.2.2.2.2.1,(t8 y.2.1).1,(t8 y.2.1).2.1⟩:aq.State) (fun q0 q1=>k (.agg [.int .i64 q0.kind, .int .i64 q0.num.ao, .int .i64 q0.num.exp, .str q0.text, .sl .str q0.names .no, .sl .json q0.items .no]) [.cells [.ptr 1 5], .cells [.int .i64 q1.header, .int .i64 q1.dc, .str q1.bc, .int .i64 q1.order, .int .i64 q1.update, .bool q1.live, .int .i64 q1.node, .int .i64 q1.seq, .bool q1.bz, .int .i64 q1.accepted]])
def Gz (fn:mC R):=aC yF yG (Fi fn)
section
variable (jj:BJ R)
def GA:List (lC R) := [(99,true,(PC jj av))]
def yH (x1:aq.State) (k0:Json→aq.State→Option R):Option R :=
 jj x1.live (fun y2=>k0 (⟨y2.kind,⟨y2.num.ao,y2.num.exp⟩,y2.text,y2.names,y2.items⟩:Json) x1)
theorem Qu:dD (R:=R) tt (GA jj) nJ false Tryz.f178 yF yG (Fi (yH jj)):=fun x y k=>by kernel_rfl
end
theorem OU:cq (R:=R) Tryz.prog (GA (R:=R) jj) := .c (PD R) <| .n
def eg:mC R:=fun x1 k0=>yH jj x1 k0
theorem Nv (R:Type):jQ Tryz.prog 178 (Gz (eg (R:=R))):=bj TT mixed (OU (R:=R)) rfl rfl rfl rfl bX (Qu jj)
/-! ### humpyard/state.number$1 -/
abbrev kW (R:Type):Type:=aq.State→(Json→aq.State→Option R)→Option R
abbrev vg:List cY := [.leaf (.ptr 0 0)]
abbrev vh:List aY := [.cells [.ptr 1 6], .cells [.int .i64, .int .i64, .str, .int .i64, .int .i64, .bool, .int .i64, .int .i64, .bool, .int .i64]]
def Cw (fn:kW R):jR R vg vh:=fun x y k=>fn (⟨y.2.1.1,y.2.1.2.1,y.2.1.2.2.1,y.2.1.2.2.2.1,y.2.1.2.2.2.2.1,y.2.1.2.2.2.2.2.1,y.2.1.2.2.2.2.2.2.1,y.2.1.2.2.2.2.2.2.2.1,(t8 y.2.1).1,(t8 y.2.1).2.1⟩:aq.State) (fun q0 q1=>k (.agg [.int .i64 q0.kind, .int .i64 q0.num.ao, .int .i64 q0.num.exp, .str q0.text, .sl .str q0.names .no, .sl .json q0.items .no]) [.cells [.ptr 1 6], .cells [.int .i64 q1.header, .int .i64 q1.dc, .str q1.bc, .int .i64 q1.order, .int .i64 q1.update, .bool q1.live, .int .i64 q1.node, .int .i64 q1.seq, .bool q1.bz, .int .i64 q1.accepted]])
def Dy (fn:kW R):=aC vg vh (Cw fn)
section
variable (bf:ko R)
def Dz:List (lC R) := [(48,true,(pW bf av))]
def vi (x1:aq.State) (k0:Json→aq.State→Option R):Option R :=
 bf x1.node (fun y2=>k0 (⟨y2.kind,⟨y2.num.ao,y2.num.exp⟩,y2.text,y2.names,y2.items⟩:Json) x1)
theorem Nw:dD (R:=R) tt (Dz bf) nJ false Tryz.f174 vg vh (Cw (vi bf)):=fun x y k=>by kernel_rfl
end
theorem LO:cq (R:=R) Tryz.prog (Dz (R:=R) bf) := .c (mv R) <| .n
def dt:kW R:=fun x1 k0=>vi bf x1 k0
theorem KB (R:Type):jQ Tryz.prog 174 (Dy (dt (R:=R))):=bj TT mixed (LO (R:=R)) rfl rfl rfl rfl bX (Nw bf)
/-! ### humpyard/state.number$1 -/
abbrev kX (R:Type):Type:=aq.State→(Json→aq.State→Option R)→Option R
abbrev vj:List cY := [.leaf (.ptr 0 0)]
abbrev vk:List aY := [.cells [.ptr 1 7], .cells [.int .i64, .int .i64, .str, .int .i64, .int .i64, .bool, .int .i64, .int .i64, .bool, .int .i64]]
def Cx (fn:kX R):jR R vj vk:=fun x y k=>fn (⟨y.2.1.1,y.2.1.2.1,y.2.1.2.2.1,y.2.1.2.2.2.1,y.2.1.2.2.2.2.1,y.2.1.2.2.2.2.2.1,y.2.1.2.2.2.2.2.2.1,y.2.1.2.2.2.2.2.2.2.1,(t8 y.2.1).1,(t8 y.2.1).2.1⟩:aq.State) (fun q0 q1=>k (.agg [.int .i64 q0.kind, .int .i64 q0.num.ao, .int .i64 q0.num.exp, .str q0.text, .sl .str q0.names .no, .sl .json q0.items .no]) [.cells [.ptr 1 7], .cells [.int .i64 q1.header, .int .i64 q1.dc, .str q1.bc, .int .i64 q1.order, .int .i64 q1.update, .bool q1.live, .int .i64 q1.node, .int .i64 q1.seq, .bool q1.bz, .int .i64 q1.accepted]])
def DA (fn:kX R):=aC vj vk (Cx fn)
section
variable (bf:ko R)
def DB:List (lC R) := [(48,true,(pW bf av))]
def vl (x1:aq.State) (k0:Json→aq.State→Option R):Option R :=
 bf x1.seq (fun y2=>k0 (⟨y2.kind,⟨y2.num.ao,y2.num.exp⟩,y2.text,y2.names,y2.items⟩:Json) x1)
theorem Nx:dD (R:=R) tt (DB bf) nJ false Tryz.f174 vj vk (Cx (vl bf)):=fun x y k=>by kernel_rfl
end
theorem LP:cq (R:=R) Tryz.prog (DB (R:=R) bf) := .c (mv R) <| .n
def du:kX R:=fun x1 k0=>vl bf x1 k0
theorem KC (R:Type):jQ Tryz.prog 174 (DA (du (R:=R))):=bj TT mixed (LP (R:=R)) rfl rfl rfl rfl bX (Nx bf)
/-! ### humpyard/state.flag$1 -/
abbrev mD (R:Type):Type:=aq.State→(Json→aq.State→Option R)→Option R
abbrev yI:List cY := [.leaf (.ptr 0 0)]
abbrev yJ:List aY := [.cells [.ptr 1 8], .cells [.int .i64, .int .i64, .str, .int .i64, .int .i64, .bool, .int .i64, .int .i64, .bool, .int .i64]]
def Fj (fn:mD R):jR R yI yJ:=fun x y k=>fn (⟨y.2.1.1,y.2.1.2.1,y.2.1.2.2.1,y.2.1.2.2.2.1,y.2.1.2.2.2.2.1,y.2.1.2.2.2.2.2.1,y.2.1.2.2.2.2.2.2.1,y.2.1.2.2.2.2.2.2.2.1,(t8 y.2.1).1,(t8 y.2.1).2.1⟩:aq.State) (fun q0 q1=>k (.agg [.int .i64 q0.kind, .int .i64 q0.num.ao, .int .i64 q0.num.exp, .str q0.text, .sl .str q0.names .no, .sl .json q0.items .no]) [.cells [.ptr 1 8], .cells [.int .i64 q1.header, .int .i64 q1.dc, .str q1.bc, .int .i64 q1.order, .int .i64 q1.update, .bool q1.live, .int .i64 q1.node, .int .i64 q1.seq, .bool q1.bz, .int .i64 q1.accepted]])
def GB (fn:mD R):=aC yI yJ (Fj fn)
section
variable (jj:BJ R)
def GC:List (lC R) := [(99,true,(PC jj av))]
def yK (x1:aq.State) (k0:Json→aq.State→Option R):Option R :=
 jj x1.bz (fun y2=>k0 (⟨y2.kind,⟨y2.num.ao,y2.num.exp⟩,y2.text,y2.names,y2.items⟩:Json) x1)
theorem Qv:dD (R:=R) tt (GC jj) nJ false Tryz.f178 yI yJ (Fj (yK jj)):=fun x y k=>by kernel_rfl
end
theorem OV:cq (R:=R) Tryz.prog (GC (R:=R) jj) := .c (PD R) <| .n
def eh:mD R:=fun x1 k0=>yK jj x1 k0
theorem Ny (R:Type):jQ Tryz.prog 178 (GB (eh (R:=R))):=bj TT mixed (OV (R:=R)) rfl rfl rfl rfl bX (Qv jj)
/-! ### humpyard/state.number$1 -/
abbrev kY (R:Type):Type:=aq.State→(Json→aq.State→Option R)→Option R
abbrev vm:List cY := [.leaf (.ptr 0 0)]
abbrev vn:List aY := [.cells [.ptr 1 9], .cells [.int .i64, .int .i64, .str, .int .i64, .int .i64, .bool, .int .i64, .int .i64, .bool, .int .i64]]
def Cy (fn:kY R):jR R vm vn:=fun x y k=>fn (⟨y.2.1.1,y.2.1.2.1,y.2.1.2.2.1,y.2.1.2.2.2.1,y.2.1.2.2.2.2.1,y.2.1.2.2.2.2.2.1,y.2.1.2.2.2.2.2.2.1,y.2.1.2.2.2.2.2.2.2.1,(t8 y.2.1).1,(t8 y.2.1).2.1⟩:aq.State) (fun q0 q1=>k (.agg [.int .i64 q0.kind, .int .i64 q0.num.ao, .int .i64 q0.num.exp, .str q0.text, .sl .str q0.names .no, .sl .json q0.items .no]) [.cells [.ptr 1 9], .cells [.int .i64 q1.header, .int .i64 q1.dc, .str q1.bc, .int .i64 q1.order, .int .i64 q1.update, .bool q1.live, .int .i64 q1.node, .int .i64 q1.seq, .bool q1.bz, .int .i64 q1.accepted]])
def DC (fn:kY R):=aC vm vn (Cy fn)
section
variable (bf:ko R)
def DE:List (lC R) := [(48,true,(pW bf av))]
def vo (x1:aq.State) (k0:Json→aq.State→Option R):Option R :=
 bf x1.accepted (fun y2=>k0 (⟨y2.kind,⟨y2.num.ao,y2.num.exp⟩,y2.text,y2.names,y2.items⟩:Json) x1)
theorem Nz:dD (R:=R) tt (DE bf) nJ false Tryz.f174 vm vn (Cy (vo bf)):=fun x y k=>by kernel_rfl
end
theorem LQ:cq (R:=R) Tryz.prog (DE (R:=R) bf) := .c (mv R) <| .n
def dv:kY R:=fun x1 k0=>vo bf x1 k0
theorem KD (R:Type):jQ Tryz.prog 174 (DC (dv (R:=R))):=bj TT mixed (LQ (R:=R)) rfl rfl rfl rfl bX (Nz bf)
/-! ### humpyard/state.Lay -/
abbrev nZ (R:Type):Type:=aq.State→(ag→Int→Option R)→Option R
abbrev Qw:List cY := [.agg [.int .i64, .int .i64, .str, .int .i64, .int .i64, .bool, .int .i64, .int .i64, .bool, .int .i64]]
abbrev Qx:List aY := []
def U5 (fn:nZ R):jR R Qw Qx:=fun x y k=>fn (⟨x.1.1,x.1.2.1,x.1.2.2.1,x.1.2.2.2.1,x.1.2.2.2.2.1,x.1.2.2.2.2.2.1,x.1.2.2.2.2.2.2.1,x.1.2.2.2.2.2.2.2.1,(t8 x.1).1,(t8 x.1).2.1⟩:aq.State) (fun q0 q1=>k (.tuple [.str q0, .int .i64 q1]) [])
def wY (fn:nZ R):=aC Qw Qx (U5 fn)
def Qy (dK:uO R) (dM:uU R) (bQ:nX R) (aE:fL R) (eg:mC R) (eh:mD R) (dm:kS R) (dn:kT R) (dp:kU R) (dq:kV R) (dt:kW R) (du:kX R) (dv:kY R) (ef:mB R):List (lC R) := [(132,false,(RI tt (dx []) (fun _=>none) false Tryz.f132 (bm Tryz.f132))),(130,false,(RI tt (dx []) (fun _=>none) false Tryz.f130 (bm Tryz.f130))),(131,false,(RI tt (dx []) (fun _=>none) false Tryz.f131 (bm Tryz.f131)))]
section
variable (dK:uO R) (dM:uU R) (bQ:nX R) (aE:fL R) (eg:mC R) (eh:mD R) (dm:kS R) (dn:kT R) (dp:kU R) (dq:kV R) (dt:kW R) (du:kX R) (dv:kY R) (ef:mB R)
def Xb:List (lC R) := [(36,true,(ME dK av)),(35,true,(Nl dM av)),(28,true,(A5 bQ av)),(41,true,(qY aE av)),(178,false,(GB eh (Gz eg av))),(174,false,(DC dv (DA du (Dy dt (Dw dq (Du dp (Ds dn (Dq dm av)))))))),(87,false,(RI tt (dx (Qy dK dM bQ aE eg eh dm dn dp dq dt du dv ef)) (fun _=>none) false Tryz.f87 (bm Tryz.f87))),(176,false,(Gx ef av))]
def Qz (x1:aq.State) (k0:ag→Int→Option R):Option R :=
 aE x1 (fun y2=>bif (!y2)then (k0 ([]:ag) 1)else (dm x1 (fun y3 y4=>dn y4 (fun y5 y6=>ef y6 (fun y7 y8=>dp y8 (fun y9 oc=>dq oc (fun uf za=>eg za (fun FM Gd=>dt Gd (fun Ed An=>du An (fun KV J4=>eh J4 (fun Pt Lg=>dv Lg (fun C2 Yi=>dK ([([104,101,97,100,101,114,73,100]:ag),([98,111,111,116]:ag),([115,101,114,105,97,108,78,117,109,98,101,114]:ag),([111,114,100,101,114,73,100]:ag),([111,114,100,101,114,85,112,100,97,116,101,73,100]:ag),([108,105,118,101]:ag),([108,97,115,116,78,111,100,101,73,100]:ag),([108,97,115,116,78,111,100,101,83,101,113,117,101,110,99,101,73,100]:ag),([100,114,105,118,105,110,103]:ag),([97,99,99,101,112,116,101,100]:ag)]:List ag) ([(⟨y3.kind,⟨y3.num.ao,y3.num.exp⟩,y3.text,y3.names,y3.items⟩:Json),(⟨y5.kind,⟨y5.num.ao,y5.num.exp⟩,y5.text,y5.names,y5.items⟩:Json),(⟨y7.kind,⟨y7.num.ao,y7.num.exp⟩,y7.text,y7.names,y7.items⟩:Json),(⟨y9.kind,⟨y9.num.ao,y9.num.exp⟩,y9.text,y9.names,y9.items⟩:Json),(⟨uf.kind,⟨uf.num.ao,uf.num.exp⟩,uf.text,uf.names,uf.items⟩:Json),(⟨FM.kind,⟨FM.num.ao,FM.num.exp⟩,FM.text,FM.names,FM.items⟩:Json),(⟨Ed.kind,⟨Ed.num.ao,Ed.num.exp⟩,Ed.text,Ed.names,Ed.items⟩:Json),(⟨KV.kind,⟨KV.num.ao,KV.num.exp⟩,KV.text,KV.names,KV.items⟩:Json),(⟨Pt.kind,⟨Pt.num.ao,Pt.num.exp⟩,Pt.text,Pt.names,Pt.items⟩:Json),(⟨C2.kind,⟨C2.num.ao,C2.num.exp⟩,C2.text,C2.names,C2.items⟩:Json)]:List Json) (fun Si=>dM (⟨Si.kind,⟨Si.num.ao,Si.num.exp⟩,Si.text,Si.names,Si.items⟩:Json) (fun y24=>bQ y24 (fun AU=>k0 AU 0)))))))))))))))
theorem state_Lay_ok:dD (R:=R) tt (Xb dK dM bQ aE eg eh dm dn dp dq dt du dv ef) nJ false Tryz.f39 Qw Qx (U5 (Qz dK dM bQ aE eg eh dm dn dp dq dt du dv ef)):=fun x y k=>by kernel_rfl
end
theorem Wg:cq (R:=R) Tryz.prog (Qy (R:=R) dK dM bQ aE eg eh dm dn dp dq dt du dv ef) := .f (oE TT mixed .n false rfl rfl rfl rfl) rfl <| .f (oE TT mixed .n false rfl rfl rfl rfl) rfl <| .f (oE TT mixed .n false rfl rfl rfl rfl) rfl <| .n
theorem state_Lay_EOk:cq (R:=R) Tryz.prog (Xb (R:=R) dK dM bQ aE eg eh dm dn dp dq dt du dv ef) := .c (Ob R) <| .c (Oq R) <| .c (wX R) <| .c (ox R) <| .f (Ny R _ (Nv R _ (fA _))) rfl <| .f (KD R _ (KC R _ (KB R _ (KA R _ (Kz R _ (Ky R _ (Kx R _ (fA _)))))))) rfl <| .f (oE TT mixed (Wg (R:=R)) false rfl rfl rfl rfl) rfl <| .d (Ns R) rfl <| .n
def bl:nZ R:=fun x1 k0=>Qz dK dM bQ aE eg eh dm dn dp dq dt du dv ef x1 k0
theorem sV (R:Type):jQ Tryz.prog 39 (wY (bl (R:=R))):=bj TT mixed (state_Lay_EOk (R:=R)) rfl rfl rfl rfl bX (state_Lay_ok dK dM bQ aE eg eh dm dn dp dq dt du dv ef)
/-! ### humpyard/state.number$2 -/
abbrev fM (R:Type):Type:=Json→ag→aq.State→(Bool→ag→aq.State→Option R)→Option R
abbrev vp:List cY := [.agg [.int .i64, .int .i64, .int .i64, .str, .sl .str, .sl .json], .leaf (.ptr 0 0), .leaf (.ptr 1 0)]
abbrev vq:List aY := [.cells [.str], .cells [.ptr 2 0], .cells [.int .i64, .int .i64, .str, .int .i64, .int .i64, .bool, .int .i64, .int .i64, .bool, .int .i64]]
def Cz (fn:fM R):jR R vp vq:=fun x y k=>fn (⟨x.1.1,⟨x.1.2.1,x.1.2.2.1⟩,x.1.2.2.2.1,x.1.2.2.2.2.1,x.1.2.2.2.2.2.1⟩:Json) y.1.1 (⟨y.2.2.1.1,y.2.2.1.2.1,y.2.2.1.2.2.1,y.2.2.1.2.2.2.1,y.2.2.1.2.2.2.2.1,y.2.2.1.2.2.2.2.2.1,y.2.2.1.2.2.2.2.2.2.1,y.2.2.1.2.2.2.2.2.2.2.1,(t8 y.2.2.1).1,(t8 y.2.2.1).2.1⟩:aq.State) (fun q0 q1 q2=>k (.bool q0) [.cells [.str q1], .cells [.ptr 2 0], .cells [.int .i64 q2.header, .int .i64 q2.dc, .str q2.bc, .int .i64 q2.order, .int .i64 q2.update, .bool q2.live, .int .i64 q2.node, .int .i64 q2.seq, .bool q2.bz, .int .i64 q2.accepted]])
def DF (fn:fM R):=aC vp vq (Cz fn)
section
variable (bP:mj R)
def DG:List (lC R) := [(110,true,(tm bP av))]
def o8 (x1:Json) (x2:ag) (x3:aq.State) (k0:Bool→ag→aq.State→Option R):Option R :=
 bP (⟨x1.kind,⟨x1.num.ao,x1.num.exp⟩,x1.text,x1.names,x1.items⟩:Json) x2 (fun y4 y5=>k0 y5 x2 (⟨y4,x3.dc,x3.bc,x3.order,x3.update,x3.live,x3.node,x3.seq,x3.bz,x3.accepted⟩:aq.State))
theorem NA:dD (R:=R) tt (DG bP) nJ false Tryz.f175 vp vq (Cz (o8 bP)):=fun x y k=>by kernel_rfl
end
theorem LR:cq (R:=R) Tryz.prog (DG (R:=R) bP) := .c (oU R) <| .n
def bB:fM R:=fun x1 x2 x3 k0=>o8 bP x1 x2 x3 k0
theorem KE (R:Type):jQ Tryz.prog 175 (DF (bB (R:=R))):=bj TT mixed (LR (R:=R)) rfl rfl rfl rfl bX (NA bP)
/-! ### humpyard/state.number$2 -/
abbrev fN (R:Type):Type:=Json→ag→aq.State→(Bool→ag→aq.State→Option R)→Option R
abbrev vu:List cY := [.agg [.int .i64, .int .i64, .int .i64, .str, .sl .str, .sl .json], .leaf (.ptr 0 0), .leaf (.ptr 1 0)]
abbrev vv:List aY := [.cells [.str], .cells [.ptr 2 1], .cells [.int .i64, .int .i64, .str, .int .i64, .int .i64, .bool, .int .i64, .int .i64, .bool, .int .i64]]
def CA (fn:fN R):jR R vu vv:=fun x y k=>fn (⟨x.1.1,⟨x.1.2.1,x.1.2.2.1⟩,x.1.2.2.2.1,x.1.2.2.2.2.1,x.1.2.2.2.2.2.1⟩:Json) y.1.1 (⟨y.2.2.1.1,y.2.2.1.2.1,y.2.2.1.2.2.1,y.2.2.1.2.2.2.1,y.2.2.1.2.2.2.2.1,y.2.2.1.2.2.2.2.2.1,y.2.2.1.2.2.2.2.2.2.1,y.2.2.1.2.2.2.2.2.2.2.1,(t8 y.2.2.1).1,(t8 y.2.2.1).2.1⟩:aq.State) (fun q0 q1 q2=>k (.bool q0) [.cells [.str q1], .cells [.ptr 2 1], .cells [.int .i64 q2.header, .int .i64 q2.dc, .str q2.bc, .int .i64 q2.order, .int .i64 q2.update, .bool q2.live, .int .i64 q2.node, .int .i64 q2.seq, .bool q2.bz, .int .i64 q2.accepted]])
def DH (fn:fN R):=aC vu vv (CA fn)
section
variable (bP:mj R)
def DI:List (lC R) := [(110,true,(tm bP av))]
def o9 (x1:Json) (x2:ag) (x3:aq.State) (k0:Bool→ag→aq.State→Option R):Option R :=
 bP (⟨x1.kind,⟨x1.num.ao,x1.num.exp⟩,x1.text,x1.names,x1.items⟩:Json) x2 (fun y4 y5=>k0 y5 x2 (⟨x3.header,y4,x3.bc,x3.order,x3.update,x3.live,x3.node,x3.seq,x3.bz,x3.accepted⟩:aq.State))
theorem NB:dD (R:=R) tt (DI bP) nJ false Tryz.f175 vu vv (CA (o9 bP)):=fun x y k=>by kernel_rfl
end
theorem LS:cq (R:=R) Tryz.prog (DI (R:=R) bP) := .c (oU R) <| .n
def bC:fN R:=fun x1 x2 x3 k0=>o9 bP x1 x2 x3 k0
theorem KF (R:Type):jQ Tryz.prog 175 (DH (bC (R:=R))):=bj TT mixed (LS (R:=R)) rfl rfl rfl rfl bX (NB bP)
/-! ### humpyard/state.text$2 -/
abbrev gH (R:Type):Type:=Json→ag→aq.State→(Bool→ag→aq.State→Option R)→Option R
abbrev yL:List cY := [.agg [.int .i64, .int .i64, .int .i64, .str, .sl .str, .sl .json], .leaf (.ptr 0 0), .leaf (.ptr 1 0)]
abbrev yM:List aY := [.cells [.str], .cells [.ptr 2 2], .cells [.int .i64, .int .i64, .str, .int .i64, .int .i64, .bool, .int .i64, .int .i64, .bool, .int .i64]]
def Fk (fn:gH R):jR R yL yM:=fun x y k=>fn (⟨x.1.1,⟨x.1.2.1,x.1.2.2.1⟩,x.1.2.2.2.1,x.1.2.2.2.2.1,x.1.2.2.2.2.2.1⟩:Json) y.1.1 (⟨y.2.2.1.1,y.2.2.1.2.1,y.2.2.1.2.2.1,y.2.2.1.2.2.2.1,y.2.2.1.2.2.2.2.1,y.2.2.1.2.2.2.2.2.1,y.2.2.1.2.2.2.2.2.2.1,y.2.2.1.2.2.2.2.2.2.2.1,(t8 y.2.2.1).1,(t8 y.2.2.1).2.1⟩:aq.State) (fun q0 q1 q2=>k (.bool q0) [.cells [.str q1], .cells [.ptr 2 2], .cells [.int .i64 q2.header, .int .i64 q2.dc, .str q2.bc, .int .i64 q2.order, .int .i64 q2.update, .bool q2.live, .int .i64 q2.node, .int .i64 q2.seq, .bool q2.bz, .int .i64 q2.accepted]])
def GD (fn:gH R):=aC yL yM (Fk fn)
section
variable (oT:EJ R)
def GF:List (lC R) := [(68,true,(UN oT av))]
def rZ (x1:Json) (x2:ag) (x3:aq.State) (k0:Bool→ag→aq.State→Option R):Option R :=
 oT (⟨x1.kind,⟨x1.num.ao,x1.num.exp⟩,x1.text,x1.names,x1.items⟩:Json) x2 (fun y4 y5=>k0 y5 x2 (⟨x3.header,x3.dc,y4,x3.order,x3.update,x3.live,x3.node,x3.seq,x3.bz,x3.accepted⟩:aq.State))
theorem QA:dD (R:=R) tt (GF oT) nJ false Tryz.f177 yL yM (Fk (rZ oT)):=fun x y k=>by kernel_rfl
end
theorem OW:cq (R:=R) Tryz.prog (GF (R:=R) oT) := .c (XG R) <| .n
def bY:gH R:=fun x1 x2 x3 k0=>rZ oT x1 x2 x3 k0
theorem NC (R:Type):jQ Tryz.prog 177 (GD (bY (R:=R))):=bj TT mixed (OW (R:=R)) rfl rfl rfl rfl bX (QA oT)
end Go.Proofs.YtidfokedcnhahaaGreatDoor
/-
 Functions of the program as pure Lean functions, and the ties; printed by wip/tools/emit.py.
-/
set_option maxRecDepth 100000
namespace Go.Proofs.YtidfokedcnhahaaGreatDoor
open Go Go.aq
variable {R:Type}
/-! ### humpyard/state.number$2 -/
abbrev fO (R:Type):Type:=Json→ag→aq.State→(Bool→ag→aq.State→Option R)→Option R
abbrev vw:List cY := [.agg [.int .i64, .int .i64, .int .i64, .str, .sl .str, .sl .json], .leaf (.ptr 0 0), .leaf (.ptr 1 0)]
abbrev vy:List aY := [.cells [.str], .cells [.ptr 2 3], .cells [.int .i64, .int .i64, .str, .int .i64, .int .i64, .bool, .int .i64, .int .i64, .bool, .int .i64]]
def CB (fn:fO R):jR R vw vy:=fun x y k=>fn (⟨x.1.1,⟨x.1.2.1,x.1.2.2.1⟩,x.1.2.2.2.1,x.1.2.2.2.2.1,x.1.2.2.2.2.2.1⟩:Json) y.1.1 (⟨y.2.2.1.1,y.2.2.1.2.1,y.2.2.1.2.2.1,y.2.2.1.2.2.2.1,y.2.2.1.2.2.2.2.1,y.2.2.1.2.2.2.2.2.1,y.2.2.1.2.2.2.2.2.2.1,y.2.2.1.2.2.2.2.2.2.2.1,(t8 y.2.2.1).1,(t8 y.2.2.1).2.1⟩:aq.State) (fun q0 q1 q2=>k (.bool q0) [.cells [.str q1], .cells [.ptr 2 3], .cells [.int .i64 q2.header, .int .i64 q2.dc, .str q2.bc, .int .i64 q2.order, .int .i64 q2.update, .bool q2.live, .int .i64 q2.node, .int .i64 q2.seq, .bool q2.bz, .int .i64 q2.accepted]])
def DJ (fn:fO R):=aC vw vy (CB fn)
section
variable (bP:mj R)
def DK:List (lC R) := [(110,true,(tm bP av))]
def pa (x1:Json) (x2:ag) (x3:aq.State) (k0:Bool→ag→aq.State→Option R):Option R :=
 bP (⟨x1.kind,⟨x1.num.ao,x1.num.exp⟩,x1.text,x1.names,x1.items⟩:Json) x2 (fun y4 y5=>k0 y5 x2 (⟨x3.header,x3.dc,x3.bc,y4,x3.update,x3.live,x3.node,x3.seq,x3.bz,x3.accepted⟩:aq.State))
theorem ND:dD (R:=R) tt (DK bP) nJ false Tryz.f175 vw vy (CB (pa bP)):=fun x y k=>by kernel_rfl
end
theorem LU:cq (R:=R) Tryz.prog (DK (R:=R) bP) := .c (oU R) <| .n
def bD:fO R:=fun x1 x2 x3 k0=>pa bP x1 x2 x3 k0
theorem KG (R:Type):jQ Tryz.prog 175 (DJ (bD (R:=R))):=bj TT mixed (LU (R:=R)) rfl rfl rfl rfl bX (ND bP)
/-! ### humpyard/state.number$2 -/
abbrev fP (R:Type):Type:=Json→ag→aq.State→(Bool→ag→aq.State→Option R)→Option R
abbrev vz:List cY := [.agg [.int .i64, .int .i64, .int .i64, .str, .sl .str, .sl .json], .leaf (.ptr 0 0), .leaf (.ptr 1 0)]
abbrev vA:List aY := [.cells [.str], .cells [.ptr 2 4], .cells [.int .i64, .int .i64, .str, .int .i64, .int .i64, .bool, .int .i64, .int .i64, .bool, .int .i64]]
def CC (fn:fP R):jR R vz vA:=fun x y k=>fn (⟨x.1.1,⟨x.1.2.1,x.1.2.2.1⟩,x.1.2.2.2.1,x.1.2.2.2.2.1,x.1.2.2.2.2.2.1⟩:Json) y.1.1 (⟨y.2.2.1.1,y.2.2.1.2.1,y.2.2.1.2.2.1,y.2.2.1.2.2.2.1,y.2.2.1.2.2.2.2.1,y.2.2.1.2.2.2.2.2.1,y.2.2.1.2.2.2.2.2.2.1,y.2.2.1.2.2.2.2.2.2.2.1,(t8 y.2.2.1).1,(t8 y.2.2.1).2.1⟩:aq.State) (fun q0 q1 q2=>k (.bool q0) [.cells [.str q1], .cells [.ptr 2 4], .cells [.int .i64 q2.header, .int .i64 q2.dc, .str q2.bc, .int .i64 q2.order, .int .i64 q2.update, .bool q2.live, .int .i64 q2.node, .int .i64 q2.seq, .bool q2.bz, .int .i64 q2.accepted]])
def DL (fn:fP R):=aC vz vA (CC fn)
section
variable (bP:mj R)
def DM:List (lC R) := [(110,true,(tm bP av))]
def pb (x1:Json) (x2:ag) (x3:aq.State) (k0:Bool→ag→aq.State→Option R):Option R :=
 bP (⟨x1.kind,⟨x1.num.ao,x1.num.exp⟩,x1.text,x1.names,x1.items⟩:Json) x2 (fun y4 y5=>k0 y5 x2 (⟨x3.header,x3.dc,x3.bc,x3.order,y4,x3.live,x3.node,x3.seq,x3.bz,x3.accepted⟩:aq.State))
theorem NF:dD (R:=R) tt (DM bP) nJ false Tryz.f175 vz vA (CC (pb bP)):=fun x y k=>by kernel_rfl
end
theorem LV:cq (R:=R) Tryz.prog (DM (R:=R) bP) := .c (oU R) <| .n
def bE:fP R:=fun x1 x2 x3 k0=>pb bP x1 x2 x3 k0
theorem KH (R:Type):jQ Tryz.prog 175 (DL (bE (R:=R))):=bj TT mixed (LV (R:=R)) rfl rfl rfl rfl bX (NF bP)
/-! ### humpyard/state.flag$2 -/
abbrev gI (R:Type):Type:=Json→ag→aq.State→(Bool→ag→aq.State→Option R)→Option R
abbrev yN:List cY := [.agg [.int .i64, .int .i64, .int .i64, .str, .sl .str, .sl .json], .leaf (.ptr 0 0), .leaf (.ptr 1 0)]
abbrev yO:List aY := [.cells [.str], .cells [.ptr 2 5], .cells [.int .i64, .int .i64, .str, .int .i64, .int .i64, .bool, .int .i64, .int .i64, .bool, .int .i64]]
def Fl (fn:gI R):jR R yN yO:=fun x y k=>fn (⟨x.1.1,⟨x.1.2.1,x.1.2.2.1⟩,x.1.2.2.2.1,x.1.2.2.2.2.1,x.1.2.2.2.2.2.1⟩:Json) y.1.1 (⟨y.2.2.1.1,y.2.2.1.2.1,y.2.2.1.2.2.1,y.2.2.1.2.2.2.1,y.2.2.1.2.2.2.2.1,y.2.2.1.2.2.2.2.2.1,y.2.2.1.2.2.2.2.2.2.1,y.2.2.1.2.2.2.2.2.2.2.1,(t8 y.2.2.1).1,(t8 y.2.2.1).2.1⟩:aq.State) (fun q0 q1 q2=>k (.bool q0) [.cells [.str q1], .cells [.ptr 2 5], .cells [.int .i64 q2.header, .int .i64 q2.dc, .str q2.bc, .int .i64 q2.order, .int .i64 q2.update, .bool q2.live, .int .i64 q2.node, .int .i64 q2.seq, .bool q2.bz, .int .i64 q2.accepted]])
def GG (fn:gI R):=aC yN yO (Fl fn)
section
variable (gP:zI R)
def GH:List (lC R) := [(112,true,(Na gP av))]
def r4 (x1:Json) (x2:ag) (x3:aq.State) (k0:Bool→ag→aq.State→Option R):Option R :=
 gP (⟨x1.kind,⟨x1.num.ao,x1.num.exp⟩,x1.text,x1.names,x1.items⟩:Json) x2 (fun y4 y5=>k0 y5 x2 (⟨x3.header,x3.dc,x3.bc,x3.order,x3.update,y4,x3.node,x3.seq,x3.bz,x3.accepted⟩:aq.State))
theorem QB:dD (R:=R) tt (GH gP) nJ false Tryz.f179 yN yO (Fl (r4 gP)):=fun x y k=>by kernel_rfl
end
theorem OX:cq (R:=R) Tryz.prog (GH (R:=R) gP) := .c (Oj R) <| .n
def bZ:gI R:=fun x1 x2 x3 k0=>r4 gP x1 x2 x3 k0
theorem NG (R:Type):jQ Tryz.prog 179 (GG (bZ (R:=R))):=bj TT mixed (OX (R:=R)) rfl rfl rfl rfl bX (QB gP)
/-! ### humpyard/state.number$2 -/
abbrev fQ (R:Type):Type:=Json→ag→aq.State→(Bool→ag→aq.State→Option R)→Option R
abbrev vB:List cY := [.agg [.int .i64, .int .i64, .int .i64, .str, .sl .str, .sl .json], .leaf (.ptr 0 0), .leaf (.ptr 1 0)]
abbrev vC:List aY := [.cells [.str], .cells [.ptr 2 6], .cells [.int .i64, .int .i64, .str, .int .i64, .int .i64, .bool, .int .i64, .int .i64, .bool, .int .i64]]
def CD (fn:fQ R):jR R vB vC:=fun x y k=>fn (⟨x.1.1,⟨x.1.2.1,x.1.2.2.1⟩,x.1.2.2.2.1,x.1.2.2.2.2.1,x.1.2.2.2.2.2.1⟩:Json) y.1.1 (⟨y.2.2.1.1,y.2.2.1.2.1,y.2.2.1.2.2.1,y.2.2.1.2.2.2.1,y.2.2.1.2.2.2.2.1,y.2.2.1.2.2.2.2.2.1,y.2.2.1.2.2.2.2.2.2.1,y.2.2.1.2.2.2.2.2.2.2.1,(t8 y.2.2.1).1,(t8 y.2.2.1).2.1⟩:aq.State) (fun q0 q1 q2=>k (.bool q0) [.cells [.str q1], .cells [.ptr 2 6], .cells [.int .i64 q2.header, .int .i64 q2.dc, .str q2.bc, .int .i64 q2.order, .int .i64 q2.update, .bool q2.live, .int .i64 q2.node, .int .i64 q2.seq, .bool q2.bz, .int .i64 q2.accepted]])
def DN (fn:fQ R):=aC vB vC (CD fn)
section
variable (bP:mj R)
def DO:List (lC R) := [(110,true,(tm bP av))]
def pc (x1:Json) (x2:ag) (x3:aq.State) (k0:Bool→ag→aq.State→Option R):Option R :=
 bP (⟨x1.kind,⟨x1.num.ao,x1.num.exp⟩,x1.text,x1.names,x1.items⟩:Json) x2 (fun y4 y5=>k0 y5 x2 (⟨x3.header,x3.dc,x3.bc,x3.order,x3.update,x3.live,y4,x3.seq,x3.bz,x3.accepted⟩:aq.State))
theorem NH:dD (R:=R) tt (DO bP) nJ false Tryz.f175 vB vC (CD (pc bP)):=fun x y k=>by kernel_rfl
end
theorem LW:cq (R:=R) Tryz.prog (DO (R:=R) bP) := .c (oU R) <| .n
def bF:fQ R:=fun x1 x2 x3 k0=>pc bP x1 x2 x3 k0
theorem KI (R:Type):jQ Tryz.prog 175 (DN (bF (R:=R))):=bj TT mixed (LW (R:=R)) rfl rfl rfl rfl bX (NH bP)
/-! ### humpyard/state.number$2 -/
abbrev fR (R:Type):Type:=Json→ag→aq.State→(Bool→ag→aq.State→Option R)→Option R
abbrev vD:List cY := [.agg [.int .i64, .int .i64, .int .i64, .str, .sl .str, .sl .json], .leaf (.ptr 0 0), .leaf (.ptr 1 0)]
abbrev vE:List aY := [.cells [.str], .cells [.ptr 2 7], .cells [.int .i64, .int .i64, .str, .int .i64, .int .i64, .bool, .int .i64, .int .i64, .bool, .int .i64]]
def CE (fn:fR R):jR R vD vE:=fun x y k=>fn (⟨x.1.1,⟨x.1.2.1,x.1.2.2.1⟩,x.1.2.2.2.1,x.1.2.2.2.2.1,x.1.2.2.2.2.2.1⟩:Json) y.1.1 (⟨y.2.2.1.1,y.2.2.1.2.1,y.2.2.1.2.2.1,y.2.2.1.2.2.2.1,y.2.2.1.2.2.2.2.1,y.2.2.1.2.2.2.2.2.1,y.2.2.1.2.2.2.2.2.2.1,y.2.2.1.2.2.2.2.2.2.2.1,(t8 y.2.2.1).1,(t8 y.2.2.1).2.1⟩:aq.State) (fun q0 q1 q2=>k (.bool q0) [.cells [.str q1], .cells [.ptr 2 7], .cells [.int .i64 q2.header, .int .i64 q2.dc, .str q2.bc, .int .i64 q2.order, .int .i64 q2.update, .bool q2.live, .int .i64 q2.node, .int .i64 q2.seq, .bool q2.bz, .int .i64 q2.accepted]])
def DP (fn:fR R):=aC vD vE (CE fn)
section
variable (bP:mj R)
def DQ:List (lC R) := [(110,true,(tm bP av))]
def pd (x1:Json) (x2:ag) (x3:aq.State) (k0:Bool→ag→aq.State→Option R):Option R :=
 bP (⟨x1.kind,⟨x1.num.ao,x1.num.exp⟩,x1.text,x1.names,x1.items⟩:Json) x2 (fun y4 y5=>k0 y5 x2 (⟨x3.header,x3.dc,x3.bc,x3.order,x3.update,x3.live,x3.node,y4,x3.bz,x3.accepted⟩:aq.State))
theorem NI:dD (R:=R) tt (DQ bP) nJ false Tryz.f175 vD vE (CE (pd bP)):=fun x y k=>by kernel_rfl
end
theorem LX:cq (R:=R) Tryz.prog (DQ (R:=R) bP) := .c (oU R) <| .n
def bG:fR R:=fun x1 x2 x3 k0=>pd bP x1 x2 x3 k0
theorem KJ (R:Type):jQ Tryz.prog 175 (DP (bG (R:=R))):=bj TT mixed (LX (R:=R)) rfl rfl rfl rfl bX (NI bP)
/-! ### humpyard/state.flag$2 -/
abbrev gJ (R:Type):Type:=Json→ag→aq.State→(Bool→ag→aq.State→Option R)→Option R
abbrev yP:List cY := [.agg [.int .i64, .int .i64, .int .i64, .str, .sl .str, .sl .json], .leaf (.ptr 0 0), .leaf (.ptr 1 0)]
abbrev yQ:List aY := [.cells [.str], .cells [.ptr 2 8], .cells [.int .i64, .int .i64, .str, .int .i64, .int .i64, .bool, .int .i64, .int .i64, .bool, .int .i64]]
def Fo (fn:gJ R):jR R yP yQ:=fun x y k=>fn (⟨x.1.1,⟨x.1.2.1,x.1.2.2.1⟩,x.1.2.2.2.1,x.1.2.2.2.2.1,x.1.2.2.2.2.2.1⟩:Json) y.1.1 (⟨y.2.2.1.1,y.2.2.1.2.1,y.2.2.1.2.2.1,y.2.2.1.2.2.2.1,y.2.2.1.2.2.2.2.1,y.2.2.1.2.2.2.2.2.1,y.2.2.1.2.2.2.2.2.2.1,y.2.2.1.2.2.2.2.2.2.2.1,(t8 y.2.2.1).1,(t8 y.2.2.1).2.1⟩:aq.State) (fun q0 q1 q2=>k (.bool q0) [.cells [.str q1], .cells [.ptr 2 8], .cells [.int .i64 q2.header, .int .i64 q2.dc, .str q2.bc, .int .i64 q2.order, .int .i64 q2.update, .bool q2.live, .int .i64 q2.node, .int .i64 q2.seq, .bool q2.bz, .int .i64 q2.accepted]])
def GI (fn:gJ R):=aC yP yQ (Fo fn)
section
variable (gP:zI R)
def GJ:List (lC R) := [(112,true,(Na gP av))]
def r5 (x1:Json) (x2:ag) (x3:aq.State) (k0:Bool→ag→aq.State→Option R):Option R :=
 gP (⟨x1.kind,⟨x1.num.ao,x1.num.exp⟩,x1.text,x1.names,x1.items⟩:Json) x2 (fun y4 y5=>k0 y5 x2 (⟨x3.header,x3.dc,x3.bc,x3.order,x3.update,x3.live,x3.node,x3.seq,y4,x3.accepted⟩:aq.State))
theorem QC:dD (R:=R) tt (GJ gP) nJ false Tryz.f179 yP yQ (Fo (r5 gP)):=fun x y k=>by kernel_rfl
end
theorem OY:cq (R:=R) Tryz.prog (GJ (R:=R) gP) := .c (Oj R) <| .n
def ca:gJ R:=fun x1 x2 x3 k0=>r5 gP x1 x2 x3 k0
theorem NJ (R:Type):jQ Tryz.prog 179 (GI (ca (R:=R))):=bj TT mixed (OY (R:=R)) rfl rfl rfl rfl bX (QC gP)
/-! ### humpyard/state.number$2 -/
abbrev fS (R:Type):Type:=Json→ag→aq.State→(Bool→ag→aq.State→Option R)→Option R
abbrev vF:List cY := [.agg [.int .i64, .int .i64, .int .i64, .str, .sl .str, .sl .json], .leaf (.ptr 0 0), .leaf (.ptr 1 0)]
abbrev vG:List aY := [.cells [.str], .cells [.ptr 2 9], .cells [.int .i64, .int .i64, .str, .int .i64, .int .i64, .bool, .int .i64, .int .i64, .bool, .int .i64]]
def CF (fn:fS R):jR R vF vG:=fun x y k=>fn (⟨x.1.1,⟨x.1.2.1,x.1.2.2.1⟩,x.1.2.2.2.1,x.1.2.2.2.2.1,x.1.2.2.2.2.2.1⟩:Json) y.1.1 (⟨y.2.2.1.1,y.2.2.1.2.1,y.2.2.1.2.2.1,y.2.2.1.2.2.2.1,y.2.2.1.2.2.2.2.1,y.2.2.1.2.2.2.2.2.1,y.2.2.1.2.2.2.2.2.2.1,y.2.2.1.2.2.2.2.2.2.2.1,(t8 y.2.2.1).1,(t8 y.2.2.1).2.1⟩:aq.State) (fun q0 q1 q2=>k (.bool q0) [.cells [.str q1], .cells [.ptr 2 9], .cells [.int .i64 q2.header, .int .i64 q2.dc, .str q2.bc, .int .i64 q2.order, .int .i64 q2.update, .bool q2.live, .int .i64 q2.node, .int .i64 q2.seq, .bool q2.bz, .int .i64 q2.accepted]])
def DR (fn:fS R):=aC vF vG (CF fn)
section
variable (bP:mj R)
def DS:List (lC R) := [(110,true,(tm bP av))]
def pe (x1:Json) (x2:ag) (x3:aq.State) (k0:Bool→ag→aq.State→Option R):Option R :=
 bP (⟨x1.kind,⟨x1.num.ao,x1.num.exp⟩,x1.text,x1.names,x1.items⟩:Json) x2 (fun y4 y5=>k0 y5 x2 (⟨x3.header,x3.dc,x3.bc,x3.order,x3.update,x3.live,x3.node,x3.seq,x3.bz,y4⟩:aq.State))
theorem NK:dD (R:=R) tt (DS bP) nJ false Tryz.f175 vF vG (CF (pe bP)):=fun x y k=>by kernel_rfl
end
theorem LY:cq (R:=R) Tryz.prog (DS (R:=R) bP) := .c (oU R) <| .n
def bH:fS R:=fun x1 x2 x3 k0=>pe bP x1 x2 x3 k0
theorem KK (R:Type):jQ Tryz.prog 175 (DR (bH (R:=R))):=bj TT mixed (LY (R:=R)) rfl rfl rfl rfl bX (NK bP)
/-! ### humpyard/state.Take -/
abbrev om (R:Type):Type:=ag→(aq.State→Int→Option R)→Option R
abbrev NL:List cY := [.leaf (.str)]
abbrev NM:List aY := []
def SF (fn:om R):jR R NL NM:=fun x y k=>fn x.1 (fun q0 q1=>k (.tuple [.agg [.int .i64 q0.header, .int .i64 q0.dc, .str q0.bc, .int .i64 q0.order, .int .i64 q0.update, .bool q0.live, .int .i64 q0.node, .int .i64 q0.seq, .bool q0.bz, .int .i64 q0.accepted], .int .i64 q1]) [])
def xw (fn:om R):=aC NL NM (SF fn)
def Ox (cH:mh R) (db:nY R) (aE:fL R) (bZ:gI R) (ca:gJ R) (bB:fM R) (bC:fN R) (bD:fO R) (bE:fP R) (bF:fQ R) (bG:fR R) (bH:fS R) (bY:gH R):List (lC R) := [(132,false,(RI tt (dx []) (fun _=>none) false Tryz.f132 (bm Tryz.f132))),(130,false,(RI tt (dx []) (fun _=>none) false Tryz.f130 (bm Tryz.f130))),(131,false,(RI tt (dx []) (fun _=>none) false Tryz.f131 (bm Tryz.f131)))]
def Oy (cH:mh R) (db:nY R) (aE:fL R) (bZ:gI R) (ca:gJ R) (bB:fM R) (bC:fN R) (bD:fO R) (bE:fP R) (bF:fQ R) (bG:fR R) (bH:fS R) (bY:gH R):List (lC R) := [(179,false,(GI ca (GG bZ av))),(175,false,(DR bH (DP bG (DN bF (DL bE (DJ bD (DH bC (DF bB av)))))))),(177,false,(GD bY av))]
def Oz (cH:mh R) (db:nY R) (aE:fL R) (bZ:gI R) (ca:gJ R) (bB:fM R) (bC:fN R) (bD:fO R) (bE:fP R) (bF:fQ R) (bG:fR R) (bH:fS R) (bY:gH R):List (lC R) := [(95,false,(RI tt (dx (Oy cH db aE bZ ca bB bC bD bE bF bG bH bY)) (fun _=>none) false Tryz.f95 (bm Tryz.f95)))]
def OA (cH:mh R) (db:nY R) (aE:fL R) (bZ:gI R) (ca:gJ R) (bB:fM R) (bC:fN R) (bD:fO R) (bE:fP R) (bF:fQ R) (bG:fR R) (bH:fS R) (bY:gH R):List (lC R) := [(134,false,(RI tt (dx (Oz cH db aE bZ ca bB bC bD bE bF bG bH bY)) (fun _=>none) false Tryz.f134 (bm Tryz.f134)))]
section
variable (cH:mh R) (db:nY R) (aE:fL R) (bZ:gI R) (ca:gJ R) (bB:fM R) (bC:fN R) (bD:fO R) (bE:fP R) (bF:fQ R) (bG:fR R) (bH:fS R) (bY:gH R)
def U6:List (lC R) := [(32,true,(MU cH av)),(31,true,(Qj db av)),(41,true,(qY aE av)),(87,false,(RI tt (dx (Ox cH db aE bZ ca bB bC bD bE bF bG bH bY)) (fun _=>none) false Tryz.f87 (bm Tryz.f87))),(94,false,(RI tt (dx (OA cH db aE bZ ca bB bC bD bE bF bG bH bY)) (fun _=>none) false Tryz.f94 (bm Tryz.f94)))]
def NN (x1:ag) (k0:aq.State→Int→Option R):Option R :=
 db x1 (fun y2 y3=>bif (y3 != 0)then (k0 (⟨0,0,([]:ag),0,0,false,0,0,false,0⟩:aq.State) y3)else (cH y2 (fun y4 y5 y6=>bif (y5 != 0)then (k0 (⟨0,0,([]:ag),0,0,false,0,0,false,0⟩:aq.State) y5)else (bB (⟨y4.kind,⟨y4.num.ao,y4.num.exp⟩,y4.text,y4.names,y4.items⟩:Json) ([104,101,97,100,101,114,73,100]:ag) (⟨0,0,([]:ag),0,0,false,0,0,false,0⟩:aq.State) (fun y7 y8 y9=>bif (!y7)then (k0 (⟨0,0,([]:ag),0,0,false,0,0,false,0⟩:aq.State) 90)else (bC (⟨y4.kind,⟨y4.num.ao,y4.num.exp⟩,y4.text,y4.names,y4.items⟩:Json) ([98,111,111,116]:ag) y9 (fun oc uf za=>bif (!oc)then (k0 (⟨0,0,([]:ag),0,0,false,0,0,false,0⟩:aq.State) 90)else (bY (⟨y4.kind,⟨y4.num.ao,y4.num.exp⟩,y4.text,y4.names,y4.items⟩:Json) ([115,101,114,105,97,108,78,117,109,98,101,114]:ag) za (fun FM Gd Ed=>bif (!FM)then (k0 (⟨0,0,([]:ag),0,0,false,0,0,false,0⟩:aq.State) 90)else (bD (⟨y4.kind,⟨y4.num.ao,y4.num.exp⟩,y4.text,y4.names,y4.items⟩:Json) ([111,114,100,101,114,73,100]:ag) Ed (fun An KV J4=>bif (!An)then (k0 (⟨0,0,([]:ag),0,0,false,0,0,false,0⟩:aq.State) 90)else (bE (⟨y4.kind,⟨y4.num.ao,y4.num.exp⟩,y4.text,y4.names,y4.items⟩:Json) ([111,114,100,101,114,85,112,100,97,116,101,73,100]:ag) J4 (fun Pt Lg C2=>bif (!Pt)then (k0 (⟨0,0,([]:ag),0,0,false,0,0,false,0⟩:aq.State) 90)else (bZ (⟨y4.kind,⟨y4.num.ao,y4.num.exp⟩,y4.text,y4.names,y4.items⟩:Json) ([108,105,118,101]:ag) C2 (fun Yi Si y24=>bif (!Yi)then (k0 (⟨0,0,([]:ag),0,0,false,0,0,false,0⟩:aq.State) 90)else (bF (⟨y4.kind,⟨y4.num.ao,y4.num.exp⟩,y4.text,y4.names,y4.items⟩:Json) ([108,97,115,116,78,111,100,101,73,100]:ag) y24 (fun AU IX FB=>bif (!AU)then (k0 (⟨0,0,([]:ag),0,0,false,0,0,false,0⟩:aq.State) 90)else (bG (⟨y4.kind,⟨y4.num.ao,y4.num.exp⟩,y4.text,y4.names,y4.items⟩:Json) ([108,97,115,116,78,111,100,101,83,101,113,117,101,110,99,101,73,100]:ag) FB (fun O7 WV OI=>bif (!O7)then (k0 (⟨0,0,([]:ag),0,0,false,0,0,false,0⟩:aq.State) 90)else (ca (⟨y4.kind,⟨y4.num.ao,y4.num.exp⟩,y4.text,y4.names,y4.items⟩:Json) ([100,114,105,118,105,110,103]:ag) OI (fun XC HT y33=>bif (!XC)then (k0 (⟨0,0,([]:ag),0,0,false,0,0,false,0⟩:aq.State) 90)else (bH (⟨y4.kind,⟨y4.num.ao,y4.num.exp⟩,y4.text,y4.names,y4.items⟩:Json) ([97,99,99,101,112,116,101,100]:ag) y33 (fun y34 y35 y36=>bif (!y34)then (k0 (⟨0,0,([]:ag),0,0,false,0,0,false,0⟩:aq.State) 90)else (aE y36 (fun y61=>bif (!y61)then (k0 (⟨0,0,([]:ag),0,0,false,0,0,false,0⟩:aq.State) 90)else (k0 y36 0))))))))))))))))))))))))))
theorem state_Take_ok:dD (R:=R) tt (U6 cH db aE bZ ca bB bC bD bE bF bG bH bY) nJ false Tryz.f46 NL NM (SF (NN cH db aE bZ ca bB bC bD bE bF bG bH bY)):=fun x y k=>by kernel_rfl
end
theorem U7:cq (R:=R) Tryz.prog (Ox (R:=R) cH db aE bZ ca bB bC bD bE bF bG bH bY) := .f (oE TT mixed .n false rfl rfl rfl rfl) rfl <| .f (oE TT mixed .n false rfl rfl rfl rfl) rfl <| .f (oE TT mixed .n false rfl rfl rfl rfl) rfl <| .n
theorem U8:cq (R:=R) Tryz.prog (Oy (R:=R) cH db aE bZ ca bB bC bD bE bF bG bH bY) := .f (NJ R _ (NG R _ (fA _))) rfl <| .f (KK R _ (KJ R _ (KI R _ (KH R _ (KG R _ (KF R _ (KE R _ (fA _)))))))) rfl <| .d (NC R) rfl <| .n
theorem U9:cq (R:=R) Tryz.prog (Oz (R:=R) cH db aE bZ ca bB bC bD bE bF bG bH bY) := .f (oE TT mixed (U8 (R:=R)) false rfl rfl rfl rfl) rfl <| .n
theorem Va:cq (R:=R) Tryz.prog (OA (R:=R) cH db aE bZ ca bB bC bD bE bF bG bH bY) := .f (oE TT mixed (U9 (R:=R)) false rfl rfl rfl rfl) rfl <| .n
theorem ZY:cq (R:=R) Tryz.prog (U6 (R:=R) cH db aE bZ ca bB bC bD bE bF bG bH bY) := .c (Oh R) <| .c (Qk R) <| .c (ox R) <| .f (oE TT mixed (U7 (R:=R)) false rfl rfl rfl rfl) rfl <| .f (oE TT mixed (Va (R:=R)) false rfl rfl rfl rfl) rfl <| .n
def br:om R:=fun x1 k0=>NN cH db aE bZ ca bB bC bD bE bF bG bH bY x1 k0
theorem uG (R:Type):jQ Tryz.prog 46 (xw (br (R:=R))):=bj TT mixed (ZY (R:=R)) rfl rfl rfl rfl bX (state_Take_ok cH db aE bZ ca bB bC bD bE bF bG bH bY)
/-! ### cmp.isNaN[int] -/
abbrev xx (R:Type):Type:=Int→(Bool→Option R)→Option R
abbrev F6:List cY := [.leaf (.int .i64)]
abbrev F7:List aY := []
def LZ (fn:xx R):jR R F6 F7:=fun x y k=>fn x.1 (fun q0=>k (.bool q0) [])
def OB (fn:xx R):=aC F6 F7 (LZ fn)
section
def F8 (x1:Int) (k0:Bool→Option R):Option R :=
 k0 (x1 != x1)
theorem Wh:dD (R:=R) tt [] nJ false Tryz.f133 F6 F7 (LZ F8):=fun x y k=>by kernel_rfl
end
def ju:xx R:=fun x1 k0=>F8 x1 k0
theorem Tx (R:Type):jQ Tryz.prog 133 (OB (ju (R:=R))):=bj TT mixed .n rfl rfl rfl rfl bX (Wh)
/-! ### cmp.Compare[int] -/
abbrev tP (R:Type):Type:=Int→Int→(Int→Option R)→Option R
abbrev CG:List cY := [.leaf (.int .i64), .leaf (.int .i64)]
abbrev CH:List aY := []
def Ie (fn:tP R):jR R CG CH:=fun x y k=>fn x.1 x.2.1 (fun q0=>k (.int .i64 q0) [])
def JP (fn:tP R):=aC CG CH (Ie fn)
section
variable (ju:xx R)
def JQ:List (lC R) := [(133,true,(OB ju av))]
def CI (x1:Int) (x2:Int) (k0:Int→Option R):Option R :=
 ju x1 (fun y3=>ju x2 (fun y4=>bif y3 then (bif y4 then (k0 0)else (k0 (-1)))else (bif y4 then (k0 1)else (bif (decide (x1<x2))then (k0 (-1))else (bif (decide (x1>x2))then (k0 1)else (k0 0))))))
theorem Tz:dD (R:=R) tt (JQ ju) nJ false Tryz.f93 CG CH (Ie (CI ju)):=fun x y k=>by kernel_rfl
end
theorem R0:cq (R:=R) Tryz.prog (JQ (R:=R) ju) := .c (Tx R) <| .n
def gu:tP R:=fun x1 x2 k0=>CI ju x1 x2 k0
theorem QD (R:Type):jQ Tryz.prog 93 (JP (gu (R:=R))):=bj TT mixed (R0 (R:=R)) rfl rfl rfl rfl bX (Tz ju)
/-! ### cmp.Or[int] -/
abbrev EL (R:Type):Type:=(List Int)→(Int→Option R)→Option R
abbrev NO:List cY := [.leaf (.sl (.int .i64))]
abbrev NP:List aY := []
def SG (fn:EL R):jR R NO NP:=fun x y k=>fn x.1 (fun q0=>k (.int .i64 q0) [])
def Vb (fn:EL R):=aC NO NP (SG fn)
abbrev CJ (R:Type):Type:=Nat→Int→(List Int)→Int→Int→(Int→Option R)→(Int→Int→Option R)→Option R
def xy:Hint := { live := [3,6,7,8],own := [],rows := [],cells := [],drop := [],out := [2,3] }
abbrev oy:Type:=Int×(List Int)×Int×Int
def AG:oy→St:=fun d=>⟨U 3 (.int .i64 d.1::U 2 (.sl (.int .i64) d.2.1 .no :: .int .i64 d.2.2.1 :: .int .i64 d.2.2.2::U 9 ([]))), []⟩
def CK (K:Ex→St→Option R) (q0:Int):Option R:=K (.exit 0) ⟨U 3 (.int .i64 q0::U 14 ([])), []⟩
def CL (K:Ex→St→Option R) (q0:Int) (q1:Int):Option R:=K (.ret) ⟨U 2 (.int .i64 q0 :: .int .i64 q1::U 14 ([])), []⟩
abbrev sW:List cY:=PU 3 (.leaf (.int .i64)::PU 2 (.leaf (.sl (.int .i64)) :: .leaf (.int .i64) :: .leaf (.int .i64)::PU 9 ([])))
abbrev sY:List aY := []
def L0 (x:cY.cC sW) (y:aY.cC sY):Nat:=(Int.natAbs x.2.2.2.1+List.length x.2.2.2.2.2.2.1+Int.natAbs x.2.2.2.2.2.2.2.1+Int.natAbs ((t8 x).1)+64)
def Wi (x:cY.cC sW) (y:aY.cC sY):oy:=(x.2.2.2.1,x.2.2.2.2.2.2.1,x.2.2.2.2.2.2.2.1,(t8 x).1)
def JR (L:CJ R):D7 R sW sY:=fun x y K=>L (L0 x y) x.2.2.2.1 x.2.2.2.2.2.2.1 x.2.2.2.2.2.2.2.1 ((t8 x).1) (CK K) (CL K)
section
variable (dz:CJ R)
def xA (fb:Int→(List Int)→Int→Int→Option R) (x2:Int) (x3:List Int) (x4:Int) (x5:Int) (e0:Int→Option R) (e1:Int→Int→Option R):Option R :=
 bif (decide (x5<x4))then (cx (decide ((0:Int)≤x5)&&decide (x5<x3.length)) (bif ((x3.getD x5.toNat (Ty.bR (.int .i64))) != x2)then (e1 (x3.getD x5.toNat (Ty.bR (.int .i64))) x2)else (fb x2 x3 x4 (IntKind.i64.wrap (x5+1)))))else (e0 x2)
def L1 (K:Ex→St→Option R) (rc:oy→Option R) (d:oy):Option R:=xA (fun z0 z1 z2 z3=>rc (z0,z1,z2,z3)) d.1 d.2.1 d.2.2.1 d.2.2.2 (CK K) (CL K)
def CM:Nat→Option (Hint×dE R):=fun i=>match i with
 | 3=>some (xy,(dR sW sY (JR dz) lL))
 | _=>none
theorem R1 (K:Ex→St→Option R) (rc:St→Option R) (d:oy):roundOf tt (dx []) (CM dz) 0 ((aN (bm Tryz.f92)).getD 0 .skip) xy (AG d) rc K=L1 K (fun d=>rc (AG d)) d:=by kernel_rfl
def NQ (x1:List Int) (k0:Int→Option R):Option R :=
 dz (Int.natAbs 0+List.length x1+Int.natAbs (x1.length:Int)+Int.natAbs 0+64) 0 x1 (x1.length:Int) 0 (fun y6=>k0 y6) (fun y7 y8=>k0 y7)
theorem cmp_Or_int_ok:dD (R:=R) tt [] (CM dz) false Tryz.f92 NO NP (SG (NQ dz)):=fun x y k=>by kernel_rfl
end
def dz:CJ R
 | 0,_,_,_,_,_,_=>none
 | n+1,jb,jf,jl,uk,e0,e1=>xA (fun jb jf jl uk=>dz n jb jf jl uk e0 e1) jb jf jl uk e0 e1
def L2 (K:Ex→St→Option R) (n:Nat) (d:oy):Option R:=dz n d.1 d.2.1 d.2.2.1 d.2.2.2 (CK K) (CL K)
theorem Vc (other:dE R) (ho:kg tt (dx []) (CM (R:=R) dz) 0 ((aN (bm Tryz.f92)).getD 0 .skip) xy other):kg tt (dx []) (CM (R:=R) dz) 0 ((aN (bm Tryz.f92)).getD 0 .skip) xy (dR sW sY (JR (dz)) other) :=
 ei (A:=L2) ho (gd AG (L1) (L2) (fun _ _=>by kernel_rfl) (R1 dz) (fun _ _ _=>by kernel_rfl)) L0 Wi (fun _ _=>by kernel_rfl) (fun _ _ _=>by kernel_rfl)
def oW:EL R:=fun x1 k0=>NQ dz x1 k0
theorem Wj (R:Type):∀a∈aN (bm Tryz.f92),je tt (dx []) (CM (R:=R) dz) 0 a:=by
 refine gQ 1 (by kernel_rfl) fun i hi => ?_
 match i,hi with
 | 0,_=>exact dH (by kernel_rfl) (Vc _ fk)
 | n+1,hi=>omega
theorem XS (R:Type):jQ Tryz.prog 92 (Vb (oW (R:=R))):=bj TT mixed .n rfl rfl rfl rfl (Wj R) (cmp_Or_int_ok dz)
end Go.Proofs.YtidfokedcnhahaaGreatDoor
set_option maxRecDepth 100000
namespace Go.Proofs.YtidfokedcnhahaaGreatDoor
open Go Go.aq Go.Lib
def Fm (d:fT):Prop:=(d.ao=0∧d.exp=0)∨(Int.tmod d.ao 10≠0 ∧ -1000000000000000≤d.ao∧d.ao≤1000000000000000 ∧ -9≤d.exp∧d.exp≤9)
theorem Fm.bounds {d:fT} (h:Fm d) : -1000000000000000≤d.ao∧d.ao≤1000000000000000 ∧ -9≤d.exp∧d.exp≤9:=by
 rcases h with h|h <;> omega
theorem Fm.nz {d:fT} (h:Fm d) (h0:d.ao≠0):Int.tmod d.ao 10≠0:=by
 rcases h with h|h
 ·exact (h0 h.1).elim
 ·exact h.1
theorem Fm.zero {d:fT} (h:Fm d) (h0:d.ao=0):d=⟨0,0⟩:=by
 rcases h with h|h
 ·cases d; simp only at h; rw[h.1,h.2]
 ·exact (h.1 (by rw[h0]; rfl)).elim
theorem Fm.mk0:Fm ⟨0,0⟩ := .inl ⟨rfl,rfl⟩
theorem tmod_neg {m:Int} (h:Int.tmod m 10≠0):Int.tmod (-m) 10≠0:=by rw[Int.neg_tmod]; omega
theorem Fm.neg {d:fT} (h:Fm d):Fm ⟨-d.ao,d.exp⟩:=by
 rcases h with h|h
 ·exact .inl ⟨by simp only; omega,h.2⟩
 ·exact .inr ⟨tmod_neg h.1,by simp only; omega,by simp only; omega,h.2.2.2⟩
theorem right_ok {R:Type} {d:fT} (h:Fm d) (k:Bool→Option R):bS d k=k true:=by
 rcases h with h|h
 ·have e:bS d k=jy az d k:=rfl
  rw[e]
  unfold jy
  rw[h.1,h.2]
  rfl
 ·cases d; exact right_mk h.1 h.2 k
def Made (m x:Int) (r:fT×Bool):Prop:=(m=0∧r=(⟨0,0⟩,true))∨∃(u:Int) (j:Nat),m=u*10 ^ j∧Int.tmod u 10≠0∧r=Xa u (x+j)
theorem make_any {R:Type} (m x:Int) (hm:yo m) (h1 : -4000000000000000000≤x) (h2:x≤1000000):∃r:fT×Bool,Made m x r∧∀k:fT→Bool→Option R,bk m x k=k r.1 r.2:=by
 by_cases h0:m=0
 ·subst h0
  exact ⟨_, .inl ⟨rfl,rfl⟩,fun k=>Wf x k⟩
 ·obtain ⟨j,u,hu,hd⟩:=strip_ex (m.natAbs+1) m h0 (by omega)
  exact ⟨_, .inr ⟨u,j,hu,hd,rfl⟩,fun k=>by subst hu; exact make_ok u j x hd hm (by omega) h2 k⟩
def val (d:fT):Int:=d.ao*10 ^ (d.exp+9).toNat
theorem nDigits_low (u:Nat) (h:0<u):10 ^ (nDigits u - 1)≤u:=by
 induction u using Nat.strongRecOn with
 | _ u ih =>
  by_cases h1:u<10
  ·rw[nDigits_small h1]; exact h
  ·rw[nDigits_big h1,Nat.add_sub_cancel]
   have h2:=ih (u / 10) (by omega) (by omega)
   have h3:=nDigits_pos (u / 10)
   have e:nDigits (u / 10)=(nDigits (u / 10) - 1)+1:=by omega
   rw[e,Nat.pow_succ]
   omega
theorem Vd {u:Nat} (h:u≤1000000000000000):nDigits u≤16:=by
 rcases Nat.eq_zero_or_pos u with rfl|h0
 ·rw[nDigits_small (by omega)]; omega
 ·have h1:=nDigits_low u h0
  rcases Nat.lt_or_ge (nDigits u) 17 with h2|h2
  ·omega
  ·have h3:(10:Nat) ^ 16≤10 ^ (nDigits u - 1):=Nat.pow_le_pow_right (by omega) (by omega)
   have e:(10:Nat) ^ 16=10000000000000000:=rfl
   omega
theorem mkD_fm {u x:Int} (hu:Int.tmod u 10≠0) (h:(Xa u x).2=true):Xa u x=(⟨u,x⟩,true)∧Fm ⟨u,x⟩:=by
 unfold Xa at h ⊢
 split at h
 ·rename_i hc
  rw[if_pos hc]
  exact ⟨rfl, .inr ⟨hu,hc⟩⟩
 ·cases h
theorem made_same {d:fT} (h:Fm d) (h0:d.ao≠0) {j:Nat} {x:Int} (hx:x+j=d.exp) {r:fT×Bool} (hr:Made (d.ao*10 ^ j) x r):r=(d,true):=by
 have hz:=h.nz h0
 have hab:=Tw d.ao j
 rcases hr with ⟨h1,_⟩|⟨u,i,e,hu,rfl⟩
 ·omega
 ·obtain ⟨rfl,rfl⟩:=strip_one i j u d.ao hu hz e.symm
  have b:=h.bounds
  unfold Xa
  rw[if_pos (by omega),hx]
end Go.Proofs.YtidfokedcnhahaaGreatDoor
set_option maxRecDepth 100000
namespace Go.Proofs.YtidfokedcnhahaaGreatDoor
open Go Go.aq
abbrev zs (s:ag):List Int:=s.map fun b=>(b.toNat:Int)
theorem zs_app (s t:ag):zs (s++t)=zs s++zs t:=List.map_append
theorem Be (s:ag):gR s=zs s:=rfl
theorem Er (s:ag):(zs s).length=s.length:=List.length_map _
theorem tQ (s:ag):wh (zs s)=s:=by
 unfold wh zs
 rw[List.map_map]
 conv=>rhs; rw[←List.map_id s]
 exact List.map_congr_left fun b _=>by simp
theorem Es (n:Nat) (h:n<256):((UInt8.ofNat n).toNat:Int)=n:=by rw[gV n h]
def Ve (s:ag):Prop:=s.length≤100000000000
theorem wb {R:Type} (b:UInt8) (s:ag) (hl:Ve s) (k:List Int→Option R):ad (b.toNat:Int) (zs s) k=k (zs (s ++ [b])):=by
 show cx (decide (((zs s).length+1)*1≤140737488355328)) (k (zs s ++ [(b.toNat:Int)]))=_
 unfold Ve at hl
 rw[ay (aQ (by rw[Er]; omega)),zs_app]
 rfl
theorem ws {R:Type} (x:ag) (s:ag) (hx:x.length≤100000000000) (hl:Ve s) (k:Int→List Int→Option R):ae x (zs s) k=k (x.length:Int) (zs (s++x)):=by
 show cx (decide (((zs s).length+(gR x).length)*1≤140737488355328)) (k (x.length:Int) (zs s++gR x))=_
 unfold Ve at hl
 rw[Be,ay (aQ (by rw[Er,Er]; omega)),zs_app]
theorem or128:∀x:Fin 64,IntKind.u8.wrap ((BitVec.ofInt IntKind.u8.bits 128 ||| BitVec.ofInt IntKind.u8.bits (x.val:Int)).toNat:Int)=((128+x.val:Nat):Int):=by decide +kernel
theorem or192:∀x:Fin 32,IntKind.u8.wrap ((BitVec.ofInt IntKind.u8.bits 192 ||| BitVec.ofInt IntKind.u8.bits (IntKind.u8.wrap (x.val:Int))).toNat:Int)=((192+x.val:Nat):Int):=by decide +kernel
theorem or224:∀x:Fin 16,IntKind.u8.wrap ((BitVec.ofInt IntKind.u8.bits 224 ||| BitVec.ofInt IntKind.u8.bits (IntKind.u8.wrap (x.val:Int))).toNat:Int)=((224+x.val:Nat):Int):=by decide +kernel
theorem or240:∀x:Fin 8,IntKind.u8.wrap ((BitVec.ofInt IntKind.u8.bits 240 ||| BitVec.ofInt IntKind.u8.bits (IntKind.u8.wrap (x.val:Int))).toNat:Int)=((240+x.val:Nat):Int):=by decide +kernel
theorem and63:∀x:Fin 256,IntKind.u8.wrap ((BitVec.ofInt IntKind.u8.bits (x.val:Int) &&& BitVec.ofInt IntKind.u8.bits 63).toNat:Int)=((x.val % 64:Nat):Int):=by decide +kernel
theorem wrap8 (n:Nat):IntKind.u8.wrap (n:Int)=((n % 256:Nat):Int):=by
 simp only[IntKind.wrap,IntKind.bits,IntKind.signed]
 simp
theorem wrap32u {n:Nat} (h:n<1114112):IntKind.u32.wrap (n:Int)=(n:Int):=by
 simp only[IntKind.wrap,IntKind.bits,IntKind.signed]
 simp
 omega
theorem shr (c n:Nat) (h:n≤32):Int.fdiv (c:Int) (2 ^ (min n IntKind.i32.bits))=((c / 2 ^ n:Nat):Int):=by
 have e:min n IntKind.i32.bits=n:=Nat.min_eq_left h
 rw[e,Int.fdiv_eq_ediv_of_nonneg _ (by exact Int.le_of_lt (Int.pow_pos (by omega)))]
 rw[Int.natCast_ediv]
 congr 1
theorem cont (c:Nat):IntKind.u8.wrap ((BitVec.ofInt IntKind.u8.bits 128 ||| BitVec.ofInt IntKind.u8.bits (IntKind.u8.wrap ((BitVec.ofInt IntKind.u8.bits (IntKind.u8.wrap (c:Int)) &&& BitVec.ofInt IntKind.u8.bits 63).toNat:Int))).toNat:Int)=((128+c % 64:Nat):Int):=by
 have h1:=and63 ⟨c % 256,Nat.mod_lt _ (by omega)⟩
 simp only at h1
 rw[wrap8 c,h1,show c % 256 % 64=c % 64 by omega]
 exact or128 ⟨c % 64,Nat.mod_lt _ (by omega)⟩
theorem zs_enc1 (n:Nat) (h:n<256):zs [UInt8.ofNat n] = [(n:Int)]:=by simp only[zs,List.map_cons,List.map_nil,Es n h]
theorem ar {R:Type} {c:Nat} (hv:vr c) (s:ag) (hl:Ve s) (k:List Int→Option R):cG (zs s) (c:Int) k=k (zs (s++enc c)):=by
 have jD:=vr_lt hv
 unfold Ve at hl
 show iQ cj (zs s) (c:Int) k=_
 unfold iQ
 rw[wrap32u jD,zs_app]
 rcases Lu hv with ⟨h1,e⟩|⟨h0,h1,e⟩|⟨h0,h1,e⟩|⟨h0,e⟩
 ·rw[aQ (show (c:Int)≤127 by omega),cond_true,ay (aQ (by rw[Er]; omega)),e,zs_enc1 c (by omega),wrap8,Nat.mod_eq_of_lt (by omega)]
 all_goals
  rw[cu (show ¬(c:Int)≤127 by omega),cond_false]
  show fG (zs s) (c:Int) _=_
  unfold fG
  rw[wrap32u jD,e]
  simp only[cont,shr _ 6 (by omega),shr _ 12 (by omega),shr _ 18 (by omega),Er]
 ·rw[aQ (show (c:Int)≤2047 by omega),cond_true,ay (aQ (by omega))]
  have:=or192 ⟨c / 64,by omega⟩
  simp only at this
  rw[show c / 2 ^ 6=c / 64 from rfl,this]
  simp only[zs,List.map_cons,List.map_nil,Es (192+c / 64) (by omega),Es (128+c % 64) (by omega)]
 ·rw[cu (show ¬(c:Int)≤2047 by omega),cond_false]
  unfold vr at hv
  by_cases h2:c<55296
  ·rw[aQ (show (c:Int)<55296 by omega),cond_true,cond_true,ay (aQ (by omega))]
   have:=or224 ⟨c / 4096,by omega⟩
   simp only at this
   rw[show c / 2 ^ 12=c / 4096 from rfl,this]
   simp only[zs,List.map_cons,List.map_nil,Es (224+c / 4096) (by omega),Es (128+c % 64) (by omega),Es (128+c / 64 % 64) (by omega)]
  rw[cu (show ¬(c:Int)<55296 by omega),cond_false,aQ (show (57343:Int)<(c:Int) by omega),cond_true,aQ (show (c:Int)≤65535 by omega),cond_true,ay (aQ (by omega))]
  have:=or224 ⟨c / 4096,by omega⟩
  simp only at this
  rw[show c / 2 ^ 12=c / 4096 from rfl,this]
  simp only[zs,List.map_cons,List.map_nil,Es (224+c / 4096) (by omega),Es (128+c % 64) (by omega),Es (128+c / 64 % 64) (by omega)]
 ·rw[cu (show ¬(c:Int)≤2047 by omega),cond_false]
  rw[cu (show ¬(c:Int)<55296 by omega),cond_false,aQ (show (57343:Int)<(c:Int) by omega),cond_true,cu (show ¬(c:Int)≤65535 by omega),cond_false,
   aQ (show (c:Int)>65535 by omega),cond_true,aQ (show (c:Int)≤1114111 by omega),cond_true,ay (aQ (by omega))]
  have:=or240 ⟨c / 262144,by omega⟩
  simp only at this
  rw[show c / 2 ^ 18=c / 262144 from rfl,this]
  simp only[zs,List.map_cons,List.map_nil,Es (240+c / 262144) (by omega),Es (128+c % 64) (by omega),Es (128+c / 64 % 64) (by omega),Es (128+c / 4096 % 64) (by omega)]
theorem wr {R:Type} {c:Nat} (hv:vr c) (s:ag) (hl:Ve s) (k:Int→List Int→Option R):∃n:Int,ak (c:Int) (zs s) k=k n (zs (s++enc c)):=by
 refine ⟨IntKind.i64.wrap (((zs (s++enc c)).length:Int) - ((zs s).length:Int)),?_⟩
 show hU cG (c:Int) (zs s) k=_
 unfold hU
 rw[ar hv s hl]
end Go.Proofs.YtidfokedcnhahaaGreatDoor
set_option maxRecDepth 100000
namespace Go.Proofs.YtidfokedcnhahaaGreatDoor
open Go Go.aq Go.Lib
def gk (n:Nat):ag:=List.replicate n 48
theorem oz (n:Nat):(gk n).length=n:=List.length_replicate
theorem SH:∀n:Nat,repeatL [48] n=gk n
 | 0=>rfl
 | n+1=>by
  have:=SH n
  simp[repeatL,gk,List.replicate_succ]at this ⊢
  try exact this
theorem repS_zeros (z:Int):lh [48] z=gk z.toNat:=SH _
def body (L:ag) (e:Int):ag :=
 if 0≤e then L++gk e.toNat
 else
  let t:=gk (max 0 (1 - e - (L.length:Int))).toNat++L
  t.take ((t.length:Int)+e).toNat ++ [46]++t.drop ((t.length:Int)+e).toNat
def XT (d:fT):ag:=(if d.ao<0 then [45]else [])++body (decDigits d.ao.natAbs) d.exp
theorem wsn {R:Type} (x:ag) (hx:x.length≤100000000000) (k:Int→List Int→Option R):ai x k=k (x.length:Int) (zs x):=by
 show cx (decide ((0+(gR x).length)*1≤140737488355328)) (k (x.length:Int) (gR x))=_
 rw[Be,ay (aQ (by rw[Er]; omega))]
theorem print_ok {R:Type} {d:fT} (h:Fm d) (k:ag→Option R):bT d k=k (XT d):=by
 have b:=h.bounds
 have e:bT d k=pI bS aj ae ai d k:=rfl
 rw[e]
 unfold pI
 rw[right_ok h,Bool.not_true,cond_false]
 have hL:cz (max d.ao (IntKind.i64.wrap (0 - d.ao)))=decDigits d.ao.natAbs:=by
  rw[cK (n:=0 - d.ao) (by omega) (by omega)]
  have hm:max d.ao (0 - d.ao)=(d.ao.natAbs:Int):=by omega
  rw[hm]
  exact itoa_nonneg _
 have hlen:(decDigits d.ao.natAbs).length≤16:=by rw[decDigits_length]; exact Vd (by omega)
 simp only[hL,repS_zeros]
 unfold XT
 generalize decDigits d.ao.natAbs=L at *
 have w1:IntKind.i64.wrap (1 - d.exp)=1 - d.exp:=cK (by omega) (by omega)
 have w2:IntKind.i64.wrap (1 - d.exp - (L.length:Int))=1 - d.exp - (L.length:Int):=cK (by omega) (by omega)
 rw[w1,w2]
 have one:(([48]:ag).length:Int)=1:=rfl
 rw[one]
 have z0:0≤max 0 (1 - d.exp - (L.length:Int)):=by omega
 have zl:max 0 (1 - d.exp - (L.length:Int))≤10:=by omega
 have zL:1 - d.exp≤max 0 (1 - d.exp - (L.length:Int))+L.length:=by omega
 unfold body
 simp only
 generalize max 0 (1 - d.exp - (L.length:Int))=z at *
 have tl:(gk z.toNat++L).length=z.toNat+L.length:=by rw[List.length_append,oz]
 generalize gk z.toNat++L=t at *
 have lapp:∀a b:ag,(a++b).length=a.length+b.length:=fun a b=>List.length_append
 have lone:([46]:ag).length=1:=rfl
 have e45:([45]:List Int)=zs [45]:=rfl
 have q2:∀(x:Int) (f:List Int→Option R),aj x f=f [x]:=fun _ _=>rfl
 have lim45:Ve [45]:=by unfold Ve; simp
 by_cases he:0≤d.exp
 ·rw[aQ (show d.exp≥0 from he),if_pos he]
  by_cases hm:d.ao<0
  ·rw[aQ hm,if_pos hm]
   simp only[cond_true]
   rw[q2,ay (by rw[aQ (show 1*d.exp≤140737488355328 by omega)]; rfl),ay (aQ (by rw[oz]; omega)),e45,ws _ _ (by rw[lapp,oz]; omega) lim45,tQ]
  ·rw[cu hm,if_neg hm]
   simp only[cond_true,cond_false]
   rw[ay (by rw[aQ (show 1*d.exp≤140737488355328 by omega)]; rfl),ay (aQ (by rw[oz]; omega)),wsn _ (by rw[lapp,oz]; omega),tQ]
   rfl
 ·have wt:IntKind.i64.wrap ((t.length:Int)+d.exp)=(t.length:Int)+d.exp:=cK (by omega) (by omega)
  rw[cu (show ¬d.exp≥0 from he),if_neg he]
  simp only[wt,List.drop_zero,Nat.sub_zero,Int.toNat_natCast,cond_false]
  have l1:(t.take ((t.length:Int)+d.exp).toNat).length≤t.length:=by rw[List.length_take]; omega
  have l2:(t.drop ((t.length:Int)+d.exp).toNat).length≤t.length:=by rw[List.length_drop]; omega
  have c1:(decide ((0:Int)≤(t.length:Int)+d.exp)&&decide ((t.length:Int)+d.exp≤(t.length:Int)))=true:=by rw[aQ (by omega),aQ (by omega)]; rfl
  have c2:(decide ((0:Int)≤(t.length:Int))&&decide ((t.length:Int)≤(t.length:Int)))=true:=by rw[aQ (by omega),aQ (by omega)]; rfl
  have c3:(decide ((0:Int)≤z)&&decide (1*z≤140737488355328))=true:=by rw[aQ z0,aQ (by omega)]; rfl
  have et:(t.drop ((t.length:Int)+d.exp).toNat).take (t.length - ((t.length:Int)+d.exp).toNat)=t.drop ((t.length:Int)+d.exp).toNat:=List.take_of_length_le (by rw[List.length_drop]; exact Nat.le_refl _)
  rw[et]
  by_cases hm:d.ao<0
  ·rw[aQ hm,if_pos hm]
   simp only[cond_true]
   rw[q2,ay c3,ay (aQ (by rw[oz]; omega)),ay c1,ay (aQ (by omega)),ay (aQ (by omega)),ay c2,ay c1,ay (aQ (by rw[lapp,lone]; omega)),e45,ws _ _ (by rw[lapp,lapp,lone]; omega) lim45,tQ]
  ·rw[cu hm,if_neg hm]
   simp only[cond_false]
   rw[ay c3,ay (aQ (by rw[oz]; omega)),ay c1,ay (aQ (by omega)),ay (aQ (by omega)),ay c2,ay c1,ay (aQ (by rw[lapp,lone]; omega)),wsn _ (by rw[lapp,lapp,lone]; omega),tQ]
   rfl
theorem band2 {p q:Prop} [Decidable p] [Decidable q] (hp:p) (hq:q):(decide p&&decide q)=true:=by rw[aQ hp,aQ hq]; rfl
theorem ZZ:∀(p s:ag),(s.take p.length==p)=p.isPrefixOf s
 | [],s=>by simp
 | a::p, []=>by simp
 | a::p,b::s=>by
  have:=ZZ p s
  simp only[List.length_cons,List.take_succ_cons,List.isPrefixOf]
  rw[List.cons_beq_cons,this]
  congr 1
  exact Bool.beq_comm
theorem Yk {R:Type} (p s:ag) (hp:p.length≤1000) (hs:s.length≤9000000000000000000) (k:Bool→ag→Option R) :
  aK p s k=if p.isPrefixOf s then k true (s.drop p.length)else k false s:=by
 have e1:∀f:ag→Bool→Option R,fH s p f=cJ s p f:=fun _=>rfl
 show fH s p (fun y3 y4=>k y4 y3)=_
 rw[e1]
 show ia cA s p (fun y3 y4=>k y4 y3)=_
 unfold ia
 have e2:∀f:Bool→Option R,cA s p f=f (p.isPrefixOf s):=by
  intro f
  show hZ s p f=_
  unfold hZ
  by_cases h:p.length≤s.length
  ·rw[aQ (show (s.length:Int)≥(p.length:Int) by omega),cond_true,ay (by rw[aQ (show (0:Int)≤(p.length:Int) by omega)]; rfl),ay (aQ (by omega))]
   rw[List.drop_zero,Int.toNat_natCast,Nat.sub_zero,ZZ]
  ·rw[cu (show ¬(s.length:Int)≥(p.length:Int) by omega),cond_false]
   congr 1
   rw[←ZZ]
   symm
   rw[beq_eq_false_iff_ne]
   intro e
   have:=congrArg List.length e
   rw[List.length_take]at this
   omega
 rw[e2]
 cases hp2:p.isPrefixOf s with
 | false=>simp
 | true =>
  have hle:p.length≤s.length:=(List.IsPrefix.length_le (List.isPrefixOf_iff_prefix.1 hp2))
  rw[Bool.not_true,cond_false,ay (band2 (by omega) (by omega)),ay (band2 (by omega) (by omega))]
  simp only[Int.toNat_natCast,if_true]
  rw[List.take_of_length_le (by rw[List.length_drop]; exact Nat.le_refl _)]
theorem decRune_eq {s:ag} (h:s ≠ []):o4 s=decodeL s:=by
 unfold o4
 have:s.isEmpty=false:=by cases s with|nil=>exact (h rfl).elim|cons _ _=>rfl
 rw[this]
 rfl
def NR (s:ag):Option (Nat×ag) :=
 if s = []then none else if (decodeL s).1=65533∧(decodeL s).2=1 then none else if (decodeL s).1<32 then none else some ((decodeL s).1,s.drop (decodeL s).2)
theorem plain_ok {R:Type} (s:ag) (hs:s.length≤9000000000000000000) (k:Int→ag→Option R) :
  bV s k=match NR s with|some (c,r)=>k (c:Int) r|none=>k (-1) s:=by
 show lF s k=_
 unfold lF
 by_cases h0:s = []
 ·subst h0; rfl
 rw[decRune_eq h0]
 have hw:=decodeL_width s
 have hle:=decodeL_le s h0
 have hj:(cx (decide ((0:Int)≤(s.length:Int))&&decide ((s.length:Int)≤s.length)) (cx (decide ((0:Int)≤((decodeL s).2:Int))&&decide (((decodeL s).2:Int)≤(s.length:Int))) (k ((decodeL s).1:Int) ((s.drop ((decodeL s).2:Int).toNat).take ((s.length:Int).toNat - ((decodeL s).2:Int).toNat)))))=k ((decodeL s).1:Int) (s.drop (decodeL s).2):=by
  rw[ay (band2 (by omega) (by omega)),ay (band2 (by omega) (by omega)),Int.toNat_natCast,Int.toNat_natCast,List.take_of_length_le (by rw[List.length_drop]; exact Nat.le_refl _)]
 simp only[hj]
 unfold NR
 rw[if_neg h0]
 by_cases h1:(decodeL s).1=65533
 ·have e1:(((decodeL s).1:Int)==65533)=true:=by rw[h1]; rfl
  rw[e1,cond_true]
  by_cases h2:(decodeL s).2=1
  ·rw[aQ (show ((decodeL s).2:Int)<2 by omega),cond_true,if_pos ⟨h1,h2⟩]
  ·rw[cu (show ¬((decodeL s).2:Int)<2 by omega),cond_false,cu (show ¬((decodeL s).1:Int)<32 by omega),cond_false,if_neg (fun h=>h2 h.2),if_neg (by omega)]
 ·have e1:(((decodeL s).1:Int)==65533)=false:=by rw[beq_eq_false_iff_ne]; omega
  rw[e1,cond_false,if_neg (fun h=>h1 h.1)]
  by_cases h3:(decodeL s).1<32
  ·rw[aQ (show ((decodeL s).1:Int)<32 by omega),cond_true,if_pos h3]
  ·rw[cu (show ¬((decodeL s).1:Int)<32 by omega),cond_false,if_neg h3]
def XU (b:UInt8):Option Nat :=
 let n:=b.toNat
 if 48≤n∧n≤57 then some (n - 48)else if 65≤n∧n≤70 then some (n - 55)else if 97≤n∧n≤102 then some (n - 87)else none
def Vf:ag→Nat→Option Nat
 | [],v=>some v
 | b::t,v=>match XU b with|some d=>Vf t (16*v+d)|none=>none
def Fp (b:Int):Int:=IntKind.u8.wrap ((BitVec.ofInt IntKind.u8.bits b ||| BitVec.ofInt IntKind.u8.bits 32).toNat:Int)
def hexB (b:Nat):Bool :=
 (!(decide (48≤b)&&decide (b≤57))||decide (IntKind.u8.wrap ((b:Int) - 48)=((b - 48:Nat):Int))) &&
 (!(decide ((97:Int)≤Fp b)&&decide (Fp b≤122))||(!(decide (48≤b)&&decide (b≤57))&&decide (b≠95)&&decide (IntKind.u8.wrap ((IntKind.u8.wrap (Fp b - 97))+10)=Fp b - 87) &&
  (!decide (Fp b - 87<16)||((decide (65≤b)&&decide (b≤70)&&decide (Fp b - 87=((b - 55:Nat):Int)))||(decide (97≤b)&&decide (b≤102)&&decide (Fp b - 87=((b - 87:Nat):Int))))) &&
  (!decide (16≤Fp b - 87)||(!(decide (65≤b)&&decide (b≤70)) && !(decide (97≤b)&&decide (b≤102)))))) &&
 ((decide ((97:Int)≤Fp b)&&decide (Fp b≤122))||(!(decide (65≤b)&&decide (b≤70)) && !(decide (97≤b)&&decide (b≤102))))
theorem hexB_all:∀b:Fin 256,hexB b.val=true:=by decide +kernel
theorem hex_fact (b:Nat) (hb:b<256) :
  ((48≤b∧b≤57)→IntKind.u8.wrap ((b:Int) - 48)=((b - 48:Nat):Int)) ∧
  ((97:Int)≤Fp b→Fp b≤122→¬(48≤b∧b≤57)∧b≠95∧IntKind.u8.wrap ((IntKind.u8.wrap (Fp b - 97))+10)=Fp b - 87 ∧
   (Fp b - 87<16→((65≤b∧b≤70)∧Fp b - 87=((b - 55:Nat):Int))∨((97≤b∧b≤102)∧Fp b - 87=((b - 87:Nat):Int))) ∧
   (16≤Fp b - 87→¬(65≤b∧b≤70)∧¬(97≤b∧b≤102))) ∧
  (¬((97:Int)≤Fp b∧Fp b≤122)→¬(65≤b∧b≤70)∧¬(97≤b∧b≤102)):=by
 have h:=hexB_all ⟨b,hb⟩
 unfold hexB at h
 generalize Fp (b:Int)=l at *
 simp only[Bool.and_eq_true,Bool.or_eq_true,Bool.not_eq_true',Bool.and_eq_false_iff,decide_eq_true_eq,decide_eq_false_iff_not]at h
 obtain ⟨⟨h1,h2⟩,h3⟩:=h
 refine ⟨fun q => ?_,fun q1 q2 => ?_,fun q => ?_⟩
 ·rcases h1 with h1|h1
  ·omega
  ·exact h1
 ·rcases h2 with h2|⟨⟨⟨⟨g1,g2⟩,g3⟩,g4⟩,g5⟩
  ·omega
  ·refine ⟨by omega,g2,g3,fun q => ?_,fun q => ?_⟩
   ·rcases g4 with g4|g4
    ·omega
    ·rcases g4 with ⟨⟨k1,k2⟩,k3⟩|⟨⟨k1,k2⟩,k3⟩
     ·exact .inl ⟨⟨k1,k2⟩,k3⟩
     ·exact .inr ⟨⟨k1,k2⟩,k3⟩
   ·rcases g5 with g5|⟨k1,k2⟩
    ·omega
    ·exact ⟨by omega,by omega⟩
 ·rcases h3 with h3|⟨k1,k2⟩
  ·omega
  ·exact ⟨by omega,by omega⟩
theorem hexv_lt {b:UInt8} {d:Nat} (h:XU b=some d):d<16:=by
 unfold XU at h
 simp only at h
 split at h
 ·cases h; omega
 ·split at h
  ·cases h; omega
  ·split at h
   ·cases h; omega
   ·cases h
theorem u64w {n:Int} (h0:0≤n) (h:n≤18446744073709551615):IntKind.u64.wrap n=n:=by
 simp only[IntKind.wrap,IntKind.bits,IntKind.signed]
 simp
 omega
theorem uint_round {R:Type} {s x22:ag} {i v:Nat} (hi:i<s.length) (hs:s.length≤1000) (hv:v<4096) (fb:Int→Bool→ag→Int→Int→Bool→Int→Nat→Int→Int→(List Int)→Option R) (e0:ag→Bool→Int→Option R) (e1 e2:Int→ag→Bool→Int→Option R) (e3:Int→ag→Bool→Option R) :
  dG internal_strconv_lower fb 16 false x22 1152921504606846976 65535 false (v:Int) s.length (s.length:Int) (i:Int) (gR s) e0 e1 e2 e3 =
   match XU (s[i])with
   | some d=>fb 16 false x22 1152921504606846976 65535 false ((16*v+d:Nat):Int) s.length (s.length:Int) ((i+1:Nat):Int) (gR s)
   | none=>e1 0 x22 false (v:Int):=by
 unfold dG
 have hlow:∀(n:Int) (f:Int→Option R),internal_strconv_lower n f=f (Fp n):=fun _ _=>rfl
 have Hx:(gR s).getD (i:Int).toNat (Ty.bR (.int .u8))=(s[i].toNat:Int):=by
  rw[Int.toNat_natCast]
  show (s.map fun b=>(b.toNat:Int)).getD i _=_
  simp[List.getD,hi]
  rfl
 rw[aQ (show (i:Int)<(s.length:Int) by omega),cond_true,ay (by rw[aQ (show (0:Int)≤(i:Int) by omega)]; rfl),
  ay (aQ (by rw[Int.toNat_natCast,Be,Er]; exact hi))]
 simp only[Hx,hlow]
 obtain ⟨f1,f2,f3⟩:=hex_fact s[i].toNat (UInt8.toNat_lt _)
 have hb:=UInt8.toNat_lt s[i]
 generalize hbn:s[i].toNat=b at *
 have hw16:IntKind.u8.wrap 16=16:=by decide
 have hw64:IntKind.u64.wrap 16=16:=by decide
 have hi1:IntKind.i64.wrap ((i:Int)+1)=((i+1:Nat):Int):=by rw[cK (by omega) (by omega)]; omega
 -- a digit's value, if it is below 16
 have fit:∀d:Nat,d<16→∀z:Int,z=(d:Int)→(bif (decide (z≥(IntKind.u8.wrap 16)))then (e1 0 x22 false (v:Int))else (bif (decide ((v:Int)≥1152921504606846976))then (e2 65535 x22 false (v:Int))else (bif (decide ((IntKind.u64.wrap ((IntKind.u64.wrap ((v:Int)*(IntKind.u64.wrap 16)))+(IntKind.u64.wrap z)))<(IntKind.u64.wrap ((v:Int)*(IntKind.u64.wrap 16)))))then (e2 65535 x22 false (IntKind.u64.wrap ((v:Int)*(IntKind.u64.wrap 16))))else (bif (decide ((IntKind.u64.wrap ((IntKind.u64.wrap ((v:Int)*(IntKind.u64.wrap 16)))+(IntKind.u64.wrap z)))>65535))then (e2 65535 x22 false (IntKind.u64.wrap ((v:Int)*(IntKind.u64.wrap 16))))else (fb 16 false x22 1152921504606846976 65535 false (IntKind.u64.wrap ((IntKind.u64.wrap ((v:Int)*(IntKind.u64.wrap 16)))+(IntKind.u64.wrap z))) s.length (s.length:Int) (IntKind.i64.wrap ((i:Int)+1)) (gR s)))))) =
   fb 16 false x22 1152921504606846976 65535 false ((16*v+d:Nat):Int) s.length (s.length:Int) ((i+1:Nat):Int) (gR s):=by
  intro d hd z hz
  subst hz
  have k1:IntKind.u64.wrap ((v:Int)*16)=(v:Int)*16:=u64w (by omega) (by omega)
  have k2:IntKind.u64.wrap (d:Int)=d:=u64w (by omega) (by omega)
  have k3:IntKind.u64.wrap ((v:Int)*16+(d:Int))=(v:Int)*16+(d:Int):=u64w (by omega) (by omega)
  rw[hw16,hw64,k1,k2,k3,hi1,cu (show ¬(d:Int)≥16 by omega),cond_false,cu (show ¬(v:Int)≥1152921504606846976 by omega),cond_false,cu (show ¬(v:Int)*16+(d:Int)<(v:Int)*16 by omega),cond_false,
   cu (show ¬(v:Int)*16+(d:Int)>65535 by omega),cond_false]
  have:(v:Int)*16+(d:Int)=((16*v+d:Nat):Int):=by omega
  rw[this]
 rw[cond_false,Bool.cond_self]
 unfold XU
 simp only[hbn]
 by_cases h1:48≤b∧b≤57
 ·rw[aQ (show (48:Int)≤(b:Int) by omega),cond_true,aQ (show (b:Int)≤57 by omega),cond_true,if_pos h1]
  exact fit (b - 48) (by omega) _ (f1 h1)
 ·rw[if_neg h1]
  have h48:∀x z:Option R,(bif (decide ((48:Int)≤(b:Int)))then (bif (decide ((b:Int)≤(57:Int)))then x else z)else z)=z:=by
   intro x z
   by_cases h:(48:Int)≤(b:Int)
   ·rw[aQ h,cond_true,cu (show ¬(b:Int)≤57 by omega),cond_false]
   ·rw[cu h,cond_false]
  simp only[cond_false]
  rw[h48]
  by_cases h2:(97:Int)≤Fp b
  ·rw[aQ h2,cond_true]
   by_cases h3:Fp b≤122
   ·rw[aQ h3,cond_true]
    obtain ⟨_,_,g1,g2,g3⟩:=f2 h2 h3
    rw[g1]
    by_cases h4:Fp b - 87<16
    ·rcases g2 h4 with ⟨q1,q2⟩|⟨q1,q2⟩
     ·rw[if_pos q1]
      exact fit (b - 55) (by omega) _ q2
     ·rw[if_neg (by omega),if_pos q1]
      exact fit (b - 87) (by omega) _ q2
    ·obtain ⟨q1,q2⟩:=g3 (by omega)
     rw[hw16,aQ (show Fp b - 87≥16 by omega),cond_true,if_neg q1,if_neg q2]
   ·rw[cu h3,cond_false]
    obtain ⟨q1,q2⟩:=f3 (by omega)
    rw[if_neg q1,if_neg q2]
  ·rw[cu h2,cond_false]
   obtain ⟨q1,q2⟩:=f3 (by omega)
   rw[if_neg q1,if_neg q2]
theorem hexN_step (s:ag) (i v:Nat) (hi:i<s.length):Vf (s.drop i) v=match XU s[i]with|some d=>Vf (s.drop (i+1)) (16*v+d)|none=>none:=by
 rw[List.drop_eq_getElem_cons hi]
 rfl
theorem uint_loop {R:Type} {s x22:ag} (hs:s.length≤4) (e0:ag→Bool→Int→Option R) (e1 e2:Int→ag→Bool→Int→Option R) (e3:Int→ag→Bool→Option R):∀(n i v:Nat),s.length - i<n→i≤s.length→v<16 ^ i →
  (match Vf (s.drop i) v with
   | some u=>aI n 16 false x22 1152921504606846976 65535 false (v:Int) s.length (s.length:Int) (i:Int) (gR s) e0 e1 e2 e3=e0 x22 false (u:Int)
   | none=>∃w,aI n 16 false x22 1152921504606846976 65535 false (v:Int) s.length (s.length:Int) (i:Int) (gR s) e0 e1 e2 e3=e1 0 x22 false w):=by
 intro n
 induction n with
 | zero=>intro i v h; omega
 | succ n ih =>
  intro i v h hi hv
  by_cases jD:i<s.length
  ·have hv2:v<4096:=by
    have:16 ^ i≤16 ^ 3:=Nat.pow_le_pow_right (by omega) (by omega)
    have e:(16:Nat) ^ 3=4096:=rfl
    omega
   have hr:=uint_round (R:=R) (x22:=x22) jD (by omega) hv2 (fun jb jf jl uk Ea FJ RN RO RP RQ xU=>aI n jb jf jl uk Ea FJ RN RO RP RQ xU e0 e1 e2 e3) e0 e1 e2 e3
   have hL:aI (n+1) 16 false x22 1152921504606846976 65535 false (v:Int) s.length (s.length:Int) (i:Int) (gR s) e0 e1 e2 e3 =
    dG internal_strconv_lower (fun jb jf jl uk Ea FJ RN RO RP RQ xU=>aI n jb jf jl uk Ea FJ RN RO RP RQ xU e0 e1 e2 e3) 16 false x22 1152921504606846976 65535 false (v:Int) s.length (s.length:Int) (i:Int) (gR s) e0 e1 e2 e3:=rfl
   rw[hL,hr,hexN_step s i v jD]
   cases hx:XU s[i]with
   | none=>exact ⟨_,rfl⟩
   | some d =>
    have hd:=hexv_lt hx
    have:(16:Nat) ^ (i+1)=16 ^ i*16:=Nat.pow_succ ..
    exact ih (i+1) (16*v+d) (by omega) (by omega) (by omega)
  ·have e:s.drop i = []:=List.drop_eq_nil_of_le (by omega)
   rw[e]
   simp only[Vf]
   show dG internal_strconv_lower _ 16 false x22 1152921504606846976 65535 false (v:Int) s.length (s.length:Int) (i:Int) (gR s) e0 e1 e2 e3=_
   unfold dG
   rw[cu (show ¬(i:Int)<(s.length:Int) by omega),cond_false]
theorem parse4 {R:Type} {s:ag} (hs:s.length=4) (k0 k1:Int→Option R):fI s 16 16 k0 k1=match Vf s 0 with|some u=>k1 (u:Int)|none=>k0 0:=by
 show rW de s 16 16 k0 k1=_
 unfold rW
 show jA internal_strconv_lower bM aI s 16 16 _ _ _ _ _=_
 unfold jA
 have h1:(s==([]:ag))=false:=by rw[beq_eq_false_iff_ne]; rintro rfl; simp at hs
 rw[h1,cond_false]
 have c1:decide ((2:Int)≤16)=true:=by decide
 have c2:decide ((16:Int)≤36)=true:=by decide
 have c3:((16:Int)==0)=false:=by decide
 have c4:decide ((16:Int)<0)=false:=by decide
 have c5:decide ((16:Int)>64)=false:=by decide
 have c6:((16:Int)==10)=false:=by decide
 have c7:((16:Int)==16)=true:=by decide
 have c8:decide ((0:Int)≤IntKind.u64.wrap 16)=true:=by decide
 have c9:(IntKind.u64.wrap ((IntKind.u64.wrap (1*2 ^ (min ((IntKind.u64.wrap 16).toNat) IntKind.u64.bits))) - 1))=65535:=by decide +kernel
 dsimp only
 rw[c1,cond_true,c2,cond_true,c3,cond_false,c4,cond_false,c5,cond_false,c6,cond_false,c7,cond_true]
 rw[c8,ay rfl,c9]
 have hb:decide (s.length≤281474976710656)=true:=aQ (by omega)
 have key:=fun (n:Nat) (hn:4<n) (e0:ag→Bool→Int→Option R) (e1 e2:Int→ag→Bool→Int→Option R) (e3:Int→ag→Bool→Option R)=>uint_loop (R:=R) (s:=s) (x22:=s) (by omega) e0 e1 e2 e3 n 0 0 (by omega) (by omega) (by omega)
 have z0:(((0:Nat):Int))=0:=rfl
 simp only[List.drop_zero,z0]at key
 cases hx:Vf s 0 with
 | some u =>
  simp only[hx]at key
  rw[key _ (by omega)]
  rfl
 | none =>
  simp only[hx]at key
  generalize hF:(Int.natAbs 16+List.length s+Int.natAbs 1152921504606846976+Int.natAbs 65535+Int.natAbs 0+Int.natAbs (s.length:Int)+Int.natAbs 0+List.length (gR s)+64)=F at *
  obtain ⟨w,hw⟩:=key F (by rw[←hF]; omega) _ _ _ _
  rw[hw,ay (by rfl),hb,ay rfl]
theorem Z0:∀(l:ag) (v u:Nat),Vf l v=some u→u<(v+1)*16 ^ l.length
 | [],v,u,h=>by cases h; simp
 | b::t,v,u,h=>by
  simp only[Vf]at h
  cases hx:XU b with
  | none=>rw[hx]at h; cases h
  | some d =>
   rw[hx]at h
   have h1:=Z0 t _ _ h
   have hd:=hexv_lt hx
   have h2:(16*v+d+1)*16 ^ t.length≤((v+1)*16)*16 ^ t.length:=Nat.mul_le_mul_right _ (by omega)
   rw[List.length_cons,Nat.pow_succ]
   have h3:(v+1)*16*16 ^ t.length=(v+1)*(16 ^ t.length*16):=by rw[Nat.mul_assoc,Nat.mul_comm 16]
   omega
theorem hexN_all:∀(l:ag) (v u:Nat),Vf l v=some u→∀b∈l,(XU b).isSome=true
 | [],v,u,h=>by simp
 | b::t,v,u,h=>by
  simp only[Vf]at h
  cases hx:XU b with
  | none=>rw[hx]at h; cases h
  | some d =>
   rw[hx]at h
   intro c hc
   rcases List.mem_cons.1 hc with rfl|hc
   ·rw[hx]; rfl
   ·exact hexN_all t _ _ h c hc
theorem hexv_asc {b:UInt8} (h:(XU b).isSome=true):b.toNat<128∧b.toNat≠43∧b.toNat≠45∧b.toNat≠95:=by
 unfold XU at h
 simp only at h
 revert h
 (repeat' split) <;> intro h <;> first|omega|cases h
theorem hasAny_none (cs:ag):∀s:ag,(∀b∈s,cs.contains b=false)→Zs s cs=false:=by
 have key:∀s:ag,(∀b∈s,cs.contains b=false)→indexAny s cs = -1:=by
  intro s
  induction s with
  | nil=>intro _; rfl
  | cons b s ih =>
   intro h
   unfold indexAny
   rw[h b (by simp)]
   have:=ih fun x hx=>h x (by simp[hx])
   simp[this]
 intro s h
 unfold Zs containsAny
 rw[key s h]
 rfl
def OC (s:ag):Option (Nat×ag):=if s.length<4 then none else match Vf (s.take 4) 0 with|some v=>some (v,s.drop 4)|none=>none
theorem Ig {s r:ag} {v:Nat} (h:OC s=some (v,r)):v<65536∧4≤s.length∧r=s.drop 4:=by
 unfold OC at h
 split at h
 ·cases h
 ·rename_i hl
  split at h
  ·rename_i u hu
   cases h
   have:=Z0 _ _ _ hu
   rw[List.length_take,Nat.min_eq_left (by omega)]at this
   exact ⟨by omega,by omega,rfl⟩
  ·cases h
theorem Rr {n:Nat} (h:n<1114112):IntKind.i32.wrap (n:Int)=(n:Int):=wrap32_id (by omega) (by omega)
theorem unit_ok {R:Type} (s:ag) (hs:s.length≤9000000000000000000) (k:Int→ag→Option R) :
  dh s k=match OC s with|some (v,r)=>k (v:Int) r|none=>k (-1) s:=by
 show mc fI s k=_
 unfold mc
 by_cases hl:s.length<4
 ·rw[aQ (show (s.length:Int)<4 by omega),cond_true]
  unfold OC
  rw[if_pos hl]
 ·rw[cu (show ¬(s.length:Int)<4 by omega),cond_false,ay (aQ (by omega))]
  have h4:(s.drop 0).take (4 - 0)=s.take 4:=rfl
  rw[h4,parse4 (by rw[List.length_take]; omega)]
  unfold OC
  rw[if_neg hl]
  cases hu:Vf (s.take 4) 0 with
  | none=>rfl
  | some v =>
   have pO:=hexN_all _ _ _ hu
   have hasc:wB (s.take 4)=true:=List.all_eq_true.2 fun b hb=>aQ (hexv_asc (pO b hb)).1
   have hno:Zs (s.take 4) [43,45,95]=false:=hasAny_none _ _ fun b hb=>by
    obtain ⟨_,g1,g2,g3⟩:=hexv_asc (pO b hb)
    have e:∀x:UInt8,b.toNat≠x.toNat→(b==x)=false:=fun x hx=>by
     rw[beq_eq_false_iff_ne]; rintro rfl; exact hx rfl
    simp only[List.contains_cons,List.contains_nil,e 43 g1,e 45 g2,e 95 g3]
    rfl
   have hv:=(Ig (s:=s) (r:=s.drop 4) (v:=v) (by unfold OC; rw[if_neg hl,hu])).1
   have WD:wB ([43,45,95]:ag)=true:=by decide
   simp only
   rw[ay (by rw[hasc,WD,aQ (show (s.take 4).length<4294967281 by rw[List.length_take]; omega)]; rfl),hno,cond_false,ay (by rw[aQ (show (0:Int)≤(s.length:Int) by omega),aQ (show (s.length:Int)≤s.length by omega)]; rfl),ay (aQ (by omega))]
   rw[Rr (by omega),Int.toNat_natCast,List.take_of_length_le (by rw[List.length_drop]; exact Nat.le_refl _)]
def Vg (s:ag):Option (Nat×ag) :=
 match OC s with
 | none=>none
 | some (v,r) =>
  if v<55296∨57344≤v then some (v,r)else if 56320≤v then none
  else if ([92,117]:ag).isPrefixOf r then
   match OC (r.drop 2)with
   | none=>none
   | some (w,r2)=>if 56320≤w∧w<57344 then some (65536+(v - 55296)*1024+(w - 56320),r2)else none
  else none
theorem shl10 (n:Nat) (h:n<1024):IntKind.i32.wrap ((n:Int)*2 ^ (min 10 IntKind.i32.bits))=((n*1024:Nat):Int):=by
 have e:(n:Int)*2 ^ (min 10 IntKind.i32.bits)=((n*1024:Nat):Int):=by
  show (n:Int)*2 ^ 10=_
  omega
 rw[e,Rr (by omega)]
theorem long_ok {R:Type} (s:ag) (hs:s.length≤9000000000000000000) (k:Int→ag→Option R) :
  match Vg s with|some (c,r)=>cT s k=k (c:Int) r|none=>∃r,cT s k=k (-1) r:=by
 have e0:cT s k=me aK dh s k:=rfl
 rw[e0]
 unfold me
 rw[unit_ok s hs]
 unfold Vg
 cases hu:OC s with
 | none =>
  simp only
  exact ⟨s,by rw[aQ (show (-1:Int)<55296 by omega),cond_true]⟩
 | some p =>
  obtain ⟨v,r⟩:=p
  obtain ⟨hv,hl,hr⟩:=Ig hu
  have hrl:r.length≤9000000000000000000:=by rw[hr,List.length_drop]; omega
  simp only
  by_cases h1:v<55296
  ·rw[if_pos (.inl h1),aQ (show (v:Int)<55296 by omega)]
   simp only[cond_true]
  rw[cu (show ¬(v:Int)<55296 by omega),cond_false]
  by_cases h2:57344≤v
  ·rw[if_pos (.inr h2),aQ (show (v:Int)≥57344 by omega)]
   simp only[cond_true]
  rw[if_neg (by omega),cu (show ¬(v:Int)≥57344 by omega),cond_false]
  by_cases h3:56320≤v
  ·rw[if_pos h3]
   exact ⟨r,by rw[aQ (show (v:Int)≥56320 by omega),cond_true]⟩
  rw[if_neg h3,cu (show ¬(v:Int)≥56320 by omega),cond_false,Yk _ _ (by simp) hrl]
  cases hp:([92,117]:ag).isPrefixOf r with
  | false =>
   simp only[Bool.false_eq_true,if_false]
   exact ⟨r,rfl⟩
  | true =>
   simp only[if_true]
   have hrl2:(r.drop 2).length≤9000000000000000000:=by rw[List.length_drop]; omega
   have e2:r.drop ([92,117]:ag).length=r.drop 2:=rfl
   rw[Bool.not_true,cond_false,e2,unit_ok _ hrl2]
   cases hu2:OC (r.drop 2)with
   | none =>
    simp only
    exact ⟨r.drop 2,by rw[aQ (show (-1:Int)<56320 by omega),cond_true]⟩
   | some q =>
    obtain ⟨w,r2⟩:=q
    obtain ⟨hw,hl2,hr2⟩:=Ig hu2
    simp only
    by_cases h4:56320≤w∧w<57344
    ·rw[if_pos h4]
     simp only
     rw[cu (show ¬(w:Int)<56320 by omega),cond_false,cu (show ¬(w:Int)≥57344 by omega),cond_false]
     have k1:IntKind.i32.wrap ((v:Int) - 55296)=((v - 55296:Nat):Int):=by
      have:(v:Int) - 55296=((v - 55296:Nat):Int):=by omega
      rw[this,Rr (by omega)]
     rw[k1,shl10 _ (by omega)]
     have k2:IntKind.i32.wrap (65536+(((v - 55296)*1024:Nat):Int))=((65536+(v - 55296)*1024:Nat):Int):=by
      have:65536+(((v - 55296)*1024:Nat):Int)=((65536+(v - 55296)*1024:Nat):Int):=by omega
      rw[this,Rr (by omega)]
     have k3:IntKind.i32.wrap (((65536+(v - 55296)*1024:Nat):Int)+(w:Int))=((65536+(v - 55296)*1024+w:Nat):Int):=by
      have:((65536+(v - 55296)*1024:Nat):Int)+(w:Int)=((65536+(v - 55296)*1024+w:Nat):Int):=by omega
      rw[this]
      simp only[IntKind.wrap,IntKind.bits,IntKind.signed]
      simp
      omega
     have k4:IntKind.i32.wrap (((65536+(v - 55296)*1024+w:Nat):Int) - 56320)=((65536+(v - 55296)*1024+(w - 56320):Nat):Int):=by
      have:((65536+(v - 55296)*1024+w:Nat):Int) - 56320=((65536+(v - 55296)*1024+(w - 56320):Nat):Int):=by omega
      rw[this,Rr (by omega)]
     rw[k2,k3,k4]
    ·rw[if_neg h4]
     refine ⟨r2,?_⟩
     by_cases h5:w<56320
     ·rw[aQ (show (w:Int)<56320 by omega),cond_true]
     ·rw[cu (show ¬(w:Int)<56320 by omega),cond_false,aQ (show (w:Int)≥57344 by omega),cond_true]
def escP:ag→Option (Nat×ag)
 | []=>none
 | b::t =>
  if b.toNat=34∨b.toNat=92∨b.toNat=47 then some (b.toNat,t)else if b.toNat=98 then some (8,t)else if b.toNat=102 then some (12,t)else if b.toNat=110 then some (10,t)
  else if b.toNat=114 then some (13,t)else if b.toNat=116 then some (9,t)else if b.toNat=117 then Vg t else none
theorem esc_ok {R:Type} (s:ag) (hs:s.length≤9000000000000000000) (k:Int→ag→Option R) :
  match escP s with|some (c,r)=>bq s k=k (c:Int) r|none=>∃r,bq s k=k (-1) r:=by
 have e0:bq s k=j8 cT s k:=rfl
 rw[e0]
 unfold j8
 cases s with
 | nil=>exact ⟨[],rfl⟩
 | cons b t =>
  have jE:((b::t:ag)==([]:ag))=false:=rfl
  simp only[List.length_cons]at hs
  have ht:(((b::t:ag).drop 1).take (((b::t:ag).length:Int).toNat - 1))=t:=by
   rw[Int.toNat_natCast,List.drop_succ_cons,List.drop_zero,List.length_cons,Nat.add_sub_cancel,List.take_length]
  have hg:((b::t:ag).getD 0 0).toNat=b.toNat:=rfl
  rw[jE,cond_false,ay (aQ (show (0:Int)<((b::t:ag).length:Int) by simp only[List.length_cons]; omega)),
   ay (by rw[aQ (show (0:Int)≤((b::t:ag).length:Int) by omega),aQ (show ((b::t:ag).length:Int)≤(b::t:ag).length by omega)]; rfl),
   ay (aQ (show (1:Int)≤((b::t:ag).length:Int) by simp only[List.length_cons]; omega))]
  simp only[ht,hg]
  have hb:=UInt8.toNat_lt b
  simp only[escP]
  generalize b.toNat=n at *
  have q:∀m:Nat,((n:Int)==(m:Int))=decide (n=m):=fun m=>by
   by_cases h:n=m
   ·subst h; simp
   ·have:¬((n:Int)=(m:Int)):=by omega
    simp[h,this]
  have q34:((n:Int)==34)=decide (n=34):=q 34
  have q92:((n:Int)==92)=decide (n=92):=q 92
  have q47:((n:Int)==47)=decide (n=47):=q 47
  have q98:((n:Int)==98)=decide (n=98):=q 98
  have q102:((n:Int)==102)=decide (n=102):=q 102
  have q110:((n:Int)==110)=decide (n=110):=q 110
  have q114:((n:Int)==114)=decide (n=114):=q 114
  have q116:((n:Int)==116)=decide (n=116):=q 116
  have q117:((n:Int)==117)=decide (n=117):=q 117
  simp only[q34,q92,q47,q98,q102,q110,q114,q116,q117,Rr (show n<1114112 by omega)]
  by_cases SI:n=34
  ·subst SI; simp
  by_cases h92:n=92
  ·subst h92; simp
  by_cases h47:n=47
  ·subst h47; simp
  simp only[SI,h92,h47,decide_false,cond_false,or_self,if_false]
  by_cases h98:n=98
  ·subst h98; simp
  by_cases h102:n=102
  ·subst h102; simp
  by_cases h110:n=110
  ·subst h110; simp
  by_cases h114:n=114
  ·subst h114; simp
  by_cases h116:n=116
  ·subst h116; simp
  by_cases h117:n=117
  ·subst h117
   have:=long_ok (R:=R) t (by omega) k
   simp only[decide_true,decide_false,cond_true,cond_false,if_true,show ¬((117:Nat)=98) by decide,show ¬((117:Nat)=102) by decide,show ¬((117:Nat)=110) by decide,show ¬((117:Nat)=114) by decide,show ¬((117:Nat)=116) by decide,if_false]
   exact this
  simp only[h98,h102,h110,h114,h116,h117,decide_false,cond_false,if_false]
  exact ⟨t,rfl⟩
def OZ:ag := [48,49,50,51,52,53,54,55,56,57,97,98,99,100,101,102]
def qZ (c:Nat):Nat:=if c=34∨c=92 then c else if c=8 then 98 else if c=12 then 102 else if c=10 then 110 else if c=13 then 114 else if c=9 then 116 else 0
def qc (c:Nat):ag:=if qZ c≠0 then [92,UInt8.ofNat (qZ c)]else if c<32 then [92,117,48,48,OZ.getD (c / 16) 0,OZ.getD (c % 16) 0]else enc c
def Vh (rs:List Nat):ag:=rs.flatMap qc
def qt (rs:List Nat):ag:=34::(Vh rs ++ [34])
theorem shortC_lt (c:Nat):qZ c<256:=by unfold qZ; (repeat' split) <;> omega
theorem short_ok {R:Type} (c:Nat) (k:Int→Option R):fm (c:Int) k=k (qZ c:Int):=by
 show EF (c:Int) k=_
 unfold EF qZ
 have b:∀n:Nat,((c:Int)==(n:Int))=decide (c=n):=fun n=>by
  by_cases h:c=n
  ·subst h; simp
  ·have:¬((c:Int)=(n:Int)):=by omega
   simp[h,this]
 have b34:((c:Int)==34)=decide (c=34):=b 34
 have b92:((c:Int)==92)=decide (c=92):=b 92
 have b8:((c:Int)==8)=decide (c=8):=b 8
 have b12:((c:Int)==12)=decide (c=12):=b 12
 have b10:((c:Int)==10)=decide (c=10):=b 10
 have b13:((c:Int)==13)=decide (c=13):=b 13
 have b9:((c:Int)==9)=decide (c=9):=b 9
 rw[b34,b92,b8,b12,b10,b13,b9]
 have w:IntKind.u8.wrap (c:Int)=((c % 256:Nat):Int):=wrap8 c
 by_cases SI:c=34
 ·subst SI; rfl
 by_cases h92:c=92
 ·subst h92; rfl
 simp only[SI,h92,decide_false,cond_false,or_self,if_false]
 by_cases h8:c=8
 ·subst h8; rfl
 by_cases h12:c=12
 ·subst h12; rfl
 by_cases h10:c=10
 ·subst h10; rfl
 by_cases h13:c=13
 ·subst h13; rfl
 by_cases h9:c=9
 ·subst h9; rfl
 simp[h8,h12,h10,h13,h9]
theorem runeAt_drop (s:ag) (pos:Nat):mn s pos=decodeL (s.drop pos):=by
 unfold mn
 exact (decodeL_drop ⟨s.toArray⟩ pos).symm
theorem enc_head (rs:List Nat) (c:Nat) (t:List Nat):fo (rs++c::t)=fo rs++(enc c++fo t):=by simp[fo]
theorem hexdig:∀c:Fin 32,(Int.fdiv (c.val:Int) (2 ^ (min 4 IntKind.i32.bits)))=((c.val / 16:Nat):Int)∧IntKind.i32.wrap ((BitVec.ofInt IntKind.i32.bits (c.val:Int) &&& BitVec.ofInt IntKind.i32.bits 15).toNat:Int)=((c.val % 16:Nat):Int):=by decide +kernel
theorem qc_len {c:Nat} (hv:vr c):(qc c).length≤6:=by
 unfold qc
 split
 ·simp
 ·split
  ·simp
  ·have:=JF hv; omega
theorem quote_round {R:Type} {x:ag} {pos c:Nat} (hp:pos<x.length) {t:ag} (hd:x.drop pos=enc c++t) (hv:vr c) (o:ag) (ho:o.length≤90000000000) (fb:List Int→ag→Nat→Option R) (e0:List Int→Option R) :
  kL ad fm ae ak fb (zs o) x pos e0=fb (zs (o++qc c)) x (pos+(enc c).length):=by
 unfold kL
 have hr:mn x pos=(c,(enc c).length):=by rw[runeAt_drop,hd,UT hv]
 rw[hr,aQ hp,cond_true]
 simp only
 rw[short_ok]
 have hlim:∀z:ag,z.length≤10→Ve (o++z):=fun z hz=>by unfold Ve; rw[List.length_append]; omega
 have hlim0:Ve o:=by unfold Ve; omega
 by_cases hs:qZ c≠0
 ·have e:((qZ c:Int) != 0)=true:=by
   exact bne_iff_ne.2 (by omega)
  rw[e,cond_true]
  have h92:(92:Int)=((92:UInt8).toNat:Int):=rfl
  rw[h92,wb _ o hlim0]
  have h2:(qZ c:Int)=((UInt8.ofNat (qZ c)).toNat:Int):=by rw[gV _ (shortC_lt c)]
  rw[h2,wb _ _ (hlim [92] (by simp))]
  have:qc c = [92,UInt8.ofNat (qZ c)]:=by unfold qc; rw[if_pos hs]
  rw[this,List.append_assoc]
  rfl
 ·have hs0:qZ c=0:=by omega
  have e:((qZ c:Int) != 0)=false:=by rw[hs0]; rfl
  rw[e,cond_false]
  by_cases h32:c<32
  ·rw[aQ (show (c:Int)<32 by omega),cond_true,ws _ o (by simp) hlim0]
   obtain ⟨k1,k2⟩:=hexdig ⟨c,h32⟩
   simp only at k1 k2
   rw[k1,k2,ay (by rw[aQ (by omega),aQ (by omega)]; rfl)]
   rw[Int.toNat_natCast,Int.toNat_natCast,wb _ _ (hlim [92,117,48,48] (by simp)),ay (by rw[aQ (by omega),aQ (by omega)]; rfl)]
   rw[List.append_assoc o,wb _ _ (hlim _ (by simp))]
   have:qc c = [92,117,48,48,OZ.getD (c / 16) 0,OZ.getD (c % 16) 0]:=by unfold qc; rw[if_neg hs,if_pos h32]
   rw[this,List.append_assoc o]
   rfl
  ·rw[cu (show ¬(c:Int)<32 by omega),cond_false]
   obtain ⟨n,hn⟩:=wr hv o hlim0 (fun Gd Ed=>fb Ed x (pos+(enc c).length))
   rw[hn]
   have:qc c=enc c:=by unfold qc; rw[if_neg hs,if_neg h32]
   rw[this]
theorem quote_loop {R:Type} (rs:List Nat):∀(n:Nat) (done:List Nat) (o:ag),rs.length<n→(∀c∈rs,vr c)→(∀c∈done,vr c)→o.length+6*rs.length≤80000000000→∀e0:List Int→Option R,
  cN n (zs o) (fo (done++rs)) (fo done).length e0=e0 (zs (o++Vh rs)):=by
 induction rs with
 | nil =>
  intro n done o hn _ _ _ e0
  obtain ⟨m,rfl⟩:∃m,n=m+1:=⟨n - 1,by simp at hn; omega⟩
  show kL ad fm ae ak _ (zs o) (fo (done ++ [])) (fo done).length e0=_
  unfold kL
  rw[List.append_nil,cu (Nat.lt_irrefl _),cond_false]
  simp[Vh]
 | cons c rs ih =>
  intro n done o hn hr hd hl e0
  obtain ⟨m,rfl⟩:∃m,n=m+1:=⟨n - 1,by simp at hn; omega⟩
  have hv:=hr c (by simp)
  have he:=JF hv
  have hq:=qc_len hv
  simp only[List.length_cons]at hn hl
  show kL ad fm ae ak (fun jb jf jl=>cN m jb jf jl e0) (zs o) (fo (done++c::rs)) (fo done).length e0=_
  rw[quote_round (c:=c) (t:=fo rs) (by rw[enc_head,List.length_append,List.length_append]; omega) (by rw[enc_head,List.drop_left]) hv o (by omega)]
  have e1:done++c::rs=(done ++ [c])++rs:=by simp
  have e2:(fo done).length+(enc c).length=(fo (done ++ [c])).length:=by rw[encL_snoc,List.length_append]
  rw[e1,e2,ih m (done ++ [c]) (o++qc c) (by omega) (fun x hx=>hr x (by simp[hx])) (fun x hx=>by
   rcases List.mem_append.1 hx with h|h
   ·exact hd x h
   ·simp at h; subst h; exact hv) (by rw[List.length_append]; omega)]
  rw[List.append_assoc]
  rfl
theorem TA:∀(rs:List Nat),(∀c∈rs,vr c)→rs.length≤(fo rs).length∧(fo rs).length≤4*rs.length
 | [],_=>by simp[fo]
 | c::rs,h=>by
  have h1:=JF (h c (by simp))
  have h2:=TA rs (fun x hx=>h x (by simp[hx]))
  have:fo (c::rs)=enc c++fo rs:=by simp[fo]
  rw[this,List.length_append,List.length_cons]
  omega
theorem qcL_count:∀(rs:List Nat),(∀c∈rs,vr c)→(Vh rs).length≤6*rs.length
 | [],_=>by simp[Vh]
 | c::rs,h=>by
  have h1:=qc_len (h c (by simp))
  have h2:=qcL_count rs (fun x hx=>h x (by simp[hx]))
  have:Vh (c::rs)=qc c++Vh rs:=by simp[Vh]
  rw[this,List.length_append,List.length_cons]
  omega
theorem quote_ok {R:Type} (rs:List Nat) (hr:∀c∈rs,vr c) (hl:rs.length≤10000000000) (k:ag→Bool→Option R):eE (fo rs) k=k (qt rs) true:=by
 have hc:=TA rs hr
 have hq:=qcL_count rs hr
 have hw:fE (fo rs)=true:=Hp.2 ⟨rs,hr,rfl⟩
 show uT bU aj ad cN (fo rs) k=_
 unfold uT
 have q:∀(x:ag) (f:Bool→Option R),bU x f=f (fE x):=fun _ _=>rfl
 have q2:∀(x:Int) (f:List Int→Option R),aj x f=f [x]:=fun _ _=>rfl
 rw[q,hw,Bool.not_true,cond_false,q2]
 have e34:([34]:List Int)=zs [34]:=rfl
 rw[e34]
 have:=quote_loop (R:=R) rs (List.length (zs [34])+List.length (fo rs)+64) [] [34] (by omega) hr (by simp) (by simp; omega)
 rw[List.nil_append]at this
 have e0:(fo []).length=0:=rfl
 rw[e0]at this
 rw[this]
 have SI:(34:Int)=((34:UInt8).toNat:Int):=rfl
 rw[SI,wb _ _ (by unfold Ve; rw[List.length_append]; simp; omega),tQ]
 rfl
theorem quote_bad {R:Type} (s:ag) (h:fE s=false) (k:ag→Bool→Option R):eE s k=k [] false:=by
 show uT bU aj ad cN s k=_
 unfold uT
 have q:∀(x:ag) (f:Bool→Option R),bU x f=f (fE x):=fun _ _=>rfl
 rw[q,h]
 rfl
def Vi (s:ag):Option (Nat×ag):=if ([92]:ag).isPrefixOf s then escP (s.drop 1)else NR s
def uq:Nat→ag→ag→Option (ag×ag)
 | 0,_,_=>none
 | n+1,s,o=>if ([34]:ag).isPrefixOf s then some (o,s.drop 1)else match Vi s with|none=>none|some (c,r)=>uq n r (o++enc c)
theorem longP_ok {s r:ag} {c:Nat} (h:Vg s=some (c,r)):vr c∧r.length+4≤s.length:=by
 unfold Vg at h
 split at h
 ·cases h
 ·rename_i v r1 hu
  obtain ⟨hv,hl,hr⟩:=Ig hu
  split at h
  ·cases h
   refine ⟨by unfold vr; omega,?_⟩
   rw[hr,List.length_drop]; omega
  ·split at h
   ·cases h
   ·split at h
    ·split at h
     ·cases h
     ·rename_i w r2 hu2
      obtain ⟨hw,hl2,hr2⟩:=Ig hu2
      split at h
      ·simp only[Option.some.injEq,Prod.mk.injEq]at h
       obtain ⟨hc,rfl⟩:=h
       refine ⟨by unfold vr; omega,?_⟩
       rw[hr2,hr]
       simp only[List.length_drop]
       rw[hr]at hl2
       simp only[List.length_drop]at hl2
       omega
      ·cases h
    ·cases h
theorem escP_ok {s r:ag} {c:Nat} (h:escP s=some (c,r)):vr c∧r.length<s.length:=by
 cases s with
 | nil=>cases h
 | cons b t =>
  simp only[escP]at h
  have hb:=UInt8.toNat_lt b
  split at h
  ·cases h; exact ⟨by unfold vr; omega,by simp⟩
  split at h
  ·cases h; exact ⟨by unfold vr; omega,by simp⟩
  split at h
  ·cases h; exact ⟨by unfold vr; omega,by simp⟩
  split at h
  ·cases h; exact ⟨by unfold vr; omega,by simp⟩
  split at h
  ·cases h; exact ⟨by unfold vr; omega,by simp⟩
  split at h
  ·cases h; exact ⟨by unfold vr; omega,by simp⟩
  split at h
  ·obtain ⟨h1,h2⟩:=longP_ok h
   exact ⟨h1,by simp only[List.length_cons]; omega⟩
  ·cases h
theorem plainP_ok {s r:ag} {c:Nat} (h:NR s=some (c,r)):vr c∧r.length<s.length:=by
 unfold NR at h
 split at h
 ·cases h
 ·rename_i jE
  split at h
  ·cases h
  ·split at h
   ·cases h
   ·cases h
    have h1:=decodeL_width s
    have h2:0<s.length:=List.length_pos_iff.2 jE
    exact ⟨dec_vr s,by rw[List.length_drop]; omega⟩
theorem Z1 {s r:ag} {c:Nat} (h:Vi s=some (c,r)):vr c∧r.length<s.length:=by
 unfold Vi at h
 split at h
 ·obtain ⟨h1,h2⟩:=escP_ok h
  exact ⟨h1,by rw[List.length_drop]at h2; omega⟩
 ·exact plainP_ok h
theorem uq_fuel:∀(n m:Nat) (s o:ag),s.length<n→s.length<m→uq n s o=uq m s o
 | 0,_,_,_,h,_=>by omega
 | _+1,0,_,_,_,h=>by omega
 | n+1,m+1,s,o,hn,hm=>by
  unfold uq
  split
  ·rfl
  ·cases hs:Vi s with
   | none=>rfl
   | some p =>
    obtain ⟨c,r⟩:=p
    obtain ⟨_,h2⟩:=Z1 hs
    exact uq_fuel n m r _ (by omega) (by omega)
theorem unq_loop {R:Type} (x:ag) (e0:ag→ag→List Int→Option R) (e1:ag→ag→Int→Bool→ag→List Int→Option R):∀(n:Nat) (s o:ag),s.length<n→o.length+4*s.length≤90000000000 →
  (match uq n s o with
   | some (o',r)=>bw n x s (zs o) e0 e1=e0 x r (zs o')
   | none=>∃a b,bw n x s (zs o) e0 e1=e1 x [] 0 false a b):=by
 intro n
 induction n with
 | zero=>intro s o h; omega
 | succ n ih =>
  intro s o h hb
  have hL:bw (n+1) x s (zs o) e0 e1=rY ak aK bV bq (fun jb jf jl=>bw n jb jf jl e0 e1) x s (zs o) e0 e1:=rfl
  rw[hL]
  unfold rY
  rw[Yk _ _ (by simp) (by omega)]
  simp only[uq]
  have hlim:Ve o:=by unfold Ve; omega
  by_cases SI:([34]:ag).isPrefixOf s=true
  ·rw[if_pos SI,if_pos SI]
   rfl
  ·rw[if_neg SI,if_neg SI,Bool.not_false,cond_true,Yk _ _ (by simp) (by omega)]
   have fin:∀(c:Nat) (r:ag),vr c→r.length<s.length →
     (match uq n r (o++enc c)with
      | some (o',r')=>bw n x r (zs (o++enc c)) e0 e1=e0 x r' (zs o')
      | none=>∃a b,bw n x r (zs (o++enc c)) e0 e1=e1 x [] 0 false a b):=fun c r hv hr=>by
    have:=JF hv
    exact ih r (o++enc c) (by omega) (by rw[List.length_append]; omega)
   unfold Vi
   by_cases h92:([92]:ag).isPrefixOf s=true
   ·rw[if_pos h92,if_pos h92]
    have e1':s.drop ([92]:ag).length=s.drop 1:=rfl
    rw[e1',cond_true]
    have hk:=esc_ok (R:=R) (s.drop 1) (by rw[List.length_drop]; omega) (fun uf za=>bif (decide (uf<(0:Int)))then (e1 x ([]:ag) 0 false za (zs o))else (ak uf (zs o) (fun FM Gd=>bw n x za Gd e0 e1)))
    cases he:escP (s.drop 1)with
    | none =>
     rw[he]at hk
     obtain ⟨r,hk⟩:=hk
     exact ⟨r,zs o,hk.trans (by rw[aQ (show (-1:Int)<0 by omega),cond_true])⟩
    | some p =>
     obtain ⟨c,r⟩:=p
     rw[he]at hk
     obtain ⟨hv,hr⟩:=escP_ok he
     rw[List.length_drop]at hr
     simp only at hk ⊢
     rw[hk,cu (show ¬(c:Int)<0 by omega),cond_false]
     obtain ⟨q,hq⟩:=wr hv o hlim (fun FM Gd=>bw n x r Gd e0 e1)
     rw[hq]
     exact fin c r hv (by omega)
   ·rw[if_neg h92,if_neg h92,cond_false]
    have hk:=plain_ok (R:=R) s (by omega) (fun Ed An=>bif (decide (Ed<(0:Int)))then (e1 x ([]:ag) 0 false An (zs o))else (ak Ed (zs o) (fun KV J4=>bw n x An J4 e0 e1)))
    cases he:NR s with
    | none =>
     rw[he]at hk
     simp only at hk ⊢
     exact ⟨s,zs o,hk.trans (by rw[aQ (show (-1:Int)<0 by omega),cond_true])⟩
    | some p =>
     obtain ⟨c,r⟩:=p
     rw[he]at hk
     obtain ⟨hv,hr⟩:=plainP_ok he
     simp only at hk ⊢
     rw[hk,cu (show ¬(c:Int)<0 by omega),cond_false]
     obtain ⟨q,hq⟩:=wr hv o hlim (fun KV J4=>bw n x r J4 e0 e1)
     rw[hq]
     exact fin c r hv (by omega)
def uqS (s:ag):Option (ag×ag):=if ([34]:ag).isPrefixOf s then uq (s.length+1) (s.drop 1) []else none
theorem unquote_ok {R:Type} (s:ag) (hs:s.length≤20000000000) (k:ag→Int→Bool→Option R) :
  fW s k=match uqS s with|some (o,r)=>k o (IntKind.i64.wrap ((s.length:Int) - (r.length:Int))) true|none=>k [] 0 false:=by
 have e:fW s k=zX aK bw s k:=rfl
 rw[e]
 unfold zX uqS
 rw[Yk _ _ (by simp) (by omega)]
 by_cases SI:([34]:ag).isPrefixOf s=true
 ·rw[if_pos SI,if_pos SI,Bool.not_true,cond_false]
  have e1:s.drop ([34]:ag).length=s.drop 1:=rfl
  rw[e1]
  have hd:(s.drop 1).length≤s.length:=by rw[List.length_drop]; omega
  have key:=unq_loop (R:=R) s (fun Pt Lg C2=>k (wh C2) (IntKind.i64.wrap ((Pt.length:Int) - (Lg.length:Int))) true) (fun Yi Si y24 AU IX FB=>k Si y24 AU) (List.length s+List.length (s.drop 1)+List.length ([]:List Int)+64) (s.drop 1) [] (by omega) (by simp only[List.length_nil]; omega)
  rw[uq_fuel _ (s.length+1) (s.drop 1) [] (by omega) (by omega)]at key
  cases hu:uq (s.length+1) (s.drop 1) []with
  | none =>
   rw[hu]at key
   obtain ⟨a,b,key⟩:=key
   exact key
  | some p =>
   obtain ⟨o,r⟩:=p
   rw[hu]at key
   simp only at key ⊢
   refine Eq.trans key ?_
   rw[tQ]
 ·rw[if_neg SI,if_neg SI]
  rfl
theorem Z2 (a b:UInt8) (t:ag):([a]:ag).isPrefixOf (b::t)=(a==b):=by
 simp[List.isPrefixOf]
theorem hex_back:∀c:Fin 32,Vf [48,48,OZ.getD (c.val / 16) 0,OZ.getD (c.val % 16) 0] 0=some c.val:=by decide +kernel
theorem u8_ne {b:UInt8} {n:Nat} (hn:n<256) (h:b.toNat≠n):((UInt8.ofNat n)==b)=false:=by
 rw[beq_eq_false_iff_ne]
 rintro rfl
 rw[gV n hn]at h
 exact h rfl
theorem enc_first {c:Nat} (hv:vr c) (h:32≤c) (SI:c≠34) (h92:c≠92):∃b t,enc c=b::t∧b.toNat≠34∧b.toNat≠92:=by
 have jD:=vr_lt hv
 rcases Lu hv with ⟨h1,e⟩|⟨h0,h1,e⟩|⟨h0,h1,e⟩|⟨h0,e⟩
 ·exact ⟨_,_,e,by rw[gV _ (by omega)]; exact SI,by rw[gV _ (by omega)]; exact h92⟩
 ·exact ⟨_,_,e,by rw[gV _ (by omega)]; omega,by rw[gV _ (by omega)]; omega⟩
 ·exact ⟨_,_,e,by rw[gV _ (by omega)]; omega,by rw[gV _ (by omega)]; omega⟩
 ·exact ⟨_,_,e,by rw[gV _ (by omega)]; omega,by rw[gV _ (by omega)]; omega⟩
theorem shortC_cases (c:Nat):(qZ c=0∧c≠34∧c≠92)∨c=34∨c=92∨c=8∨c=12∨c=10∨c=13∨c=9:=by
 unfold qZ
 by_cases h1:c=34 <;> by_cases h2:c=92 <;> by_cases h3:c=8 <;> by_cases h4:c=12 <;> by_cases h5:c=10 <;> by_cases h6:c=13 <;> by_cases h7:c=9 <;> simp[h1,h2,h3,h4,h5,h6,h7]
theorem qc_hex {c:Nat} (h0:qZ c=0) (h:c<32):qc c = [92,117,48,48,OZ.getD (c / 16) 0,OZ.getD (c % 16) 0]:=by unfold qc; rw[if_neg (by omega),if_pos h]
theorem qc_enc {c:Nat} (h0:qZ c=0) (h:¬c<32):qc c=enc c:=by unfold qc; rw[if_neg (by omega),if_neg h]
theorem step_qc {c:Nat} (hv:vr c) (t:ag):([34]:ag).isPrefixOf (qc c++t)=false∧Vi (qc c++t)=some (c,t):=by
 rcases shortC_cases c with ⟨h0,SI,h92⟩|rfl|rfl|rfl|rfl|rfl|rfl|rfl
 ·by_cases h32:c<32
  ·rw[qc_hex h0 h32]
   refine ⟨rfl,?_⟩
   have hb:=hex_back ⟨c,h32⟩
   simp only at hb
   show Vg (48::48::OZ.getD (c / 16) 0::OZ.getD (c % 16) 0::t)=some (c,t)
   have hu:OC (48::48::OZ.getD (c / 16) 0::OZ.getD (c % 16) 0::t)=some (c,t):=by
    unfold OC
    rw[if_neg (by simp only[List.length_cons]; omega)]
    have e:List.take 4 (48::48::OZ.getD (c / 16) 0::OZ.getD (c % 16) 0::t) = [48,48,OZ.getD (c / 16) 0,OZ.getD (c % 16) 0]:=rfl
    rw[e,hb]
    rfl
   unfold Vg
   rw[hu]
   simp only
   rw[if_pos (.inl (by omega))]
  ·rw[qc_enc h0 h32]
   obtain ⟨b,u,e,g1,g2⟩:=enc_first hv (by omega) SI h92
   have e2:enc c++t=b::(u++t):=by rw[e]; rfl
   refine ⟨?_,?_⟩
   ·rw[e2,Z2]
    exact u8_ne (n:=34) (by omega) g1
   ·unfold Vi
    have:([92]:ag).isPrefixOf (enc c++t)=false:=by
     rw[e2,Z2]
     exact u8_ne (n:=92) (by omega) g2
    rw[this]
    simp only[Bool.false_eq_true,if_false]
    unfold NR
    rw[if_neg (enc_ne hv t),UT hv t]
    simp only
    have hg:=good_enc hv t
    unfold good at hg
    rw[UT hv t]at hg
    simp only at hg
    rw[if_neg hg,if_neg h32,List.drop_left]
 ·exact ⟨rfl,rfl⟩
 ·exact ⟨rfl,rfl⟩
 ·exact ⟨rfl,rfl⟩
 ·exact ⟨rfl,rfl⟩
 ·exact ⟨rfl,rfl⟩
 ·exact ⟨rfl,rfl⟩
 ·exact ⟨rfl,rfl⟩
theorem uq_qc:∀(rs:List Nat),(∀c∈rs,vr c)→∀(n:Nat) (o more:ag),rs.length<n→uq n (Vh rs++34::more) o=some (o++fo rs,more)
 | [],_,n,o,more,hn=>by
  obtain ⟨m,rfl⟩:∃m,n=m+1:=⟨n - 1,by simp at hn; omega⟩
  have:Vh []++34::more=34::more:=rfl
  rw[this]
  simp[uq,List.isPrefixOf,fo]
 | c::rs,hr,n,o,more,hn=>by
  obtain ⟨m,rfl⟩:∃m,n=m+1:=⟨n - 1,by simp at hn; omega⟩
  have hv:=hr c (by simp)
  have e:Vh (c::rs)++34::more=qc c++(Vh rs++34::more):=by simp[Vh]
  obtain ⟨h1,h2⟩:=step_qc hv (Vh rs++34::more)
  rw[e]
  simp only[uq,h1,h2,Bool.false_eq_true,if_false]
  rw[uq_qc rs (fun x hx=>hr x (by simp[hx])) m (o++enc c) more (by simp at hn; omega)]
  simp[fo]
theorem qc_pos {c:Nat} (hv:vr c):1≤(qc c).length:=by
 unfold qc
 split
 ·simp
 ·split
  ·simp
  ·exact (JF hv).1
theorem qcL_pos:∀(rs:List Nat),(∀c∈rs,vr c)→rs.length≤(Vh rs).length
 | [],_=>by simp[Vh]
 | c::rs,h=>by
  have h1:=qc_pos (h c (by simp))
  have h2:=qcL_pos rs (fun x hx=>h x (by simp[hx]))
  have:Vh (c::rs)=qc c++Vh rs:=by simp[Vh]
  rw[this,List.length_append,List.length_cons]
  omega
theorem uqS_qt (rs:List Nat) (hr:∀c∈rs,vr c) (more:ag):uqS (qt rs++more)=some (fo rs,more):=by
 have e:qt rs++more=34::(Vh rs++34::more):=by unfold qt; simp
 have hq:=qcL_pos rs hr
 rw[e]
 unfold uqS
 rw[Z2]
 simp only[BEq.rfl,if_true,List.drop_succ_cons,List.drop_zero]
 have:=uq_qc rs hr ((34::(Vh rs++34::more)).length+1) [] more (by simp only[List.length_cons,List.length_append]; omega)
 rw[this]
 rfl
theorem whole_eq {R:Type} (x:ag) (f:Bool→Option R):bU x f=f (fE x):=rfl
theorem quote_any {R:Type} (s:ag) (hl:s.length≤10000000000):(∃rs:List Nat,(∀c∈rs,vr c)∧rs.length≤s.length∧s=fo rs∧fE s=true∧∀k:ag→Bool→Option R,eE s k=k (qt rs) true) ∨
  (fE s=false∧∀k:ag→Bool→Option R,eE s k=k [] false):=by
 cases h:fE s with
 | true =>
  obtain ⟨rs,hr,rfl⟩:=Hp.1 h
  have:=TA rs hr
  exact .inl ⟨rs,hr,this.1,rfl,rfl,fun k=>quote_ok rs hr (by omega) k⟩
 | false=>exact .inr ⟨rfl,fun k=>quote_bad s h k⟩
def tail (low v n:Nat):Nat:=if v<low∨1114111<v∨(55296≤v∧v≤57343)then 0 else n
theorem eqI (n m:Nat):((n:Int)==(m:Int))=decide (n=m):=by
 by_cases h:n=m
 ·subst h; simp
 ·have:¬((n:Int)=(m:Int)):=by omega
  simp[h,this]
def qb (b:UInt8):ag :=
 if b.toNat=34∨b.toNat=92 then [92,b]else if b.toNat=8 then [92,98]else if b.toNat=9 then [92,116]else if b.toNat=10 then [92,110]else if b.toNat=12 then [92,102]else if b.toNat=13 then [92,114]
 else if b.toNat<32 then [92,117,48,48,OZ.getD (b.toNat / 16) 0,OZ.getD (b.toNat % 16) 0]else [b]
theorem qb_len (b:UInt8):(qb b).length≤6:=by unfold qb; (repeat' split) <;> simp
theorem Hg {b:UInt8} (h:128≤b.toNat):qb b = [b]:=by
 unfold qb
 rw[if_neg (by omega),if_neg (by omega),if_neg (by omega),if_neg (by omega),if_neg (by omega),if_neg (by omega),if_neg (by omega)]
theorem qb_enc {c:Nat} (hv:vr c):(enc c).flatMap qb=qc c:=by
 have jD:=vr_lt hv
 rcases Lu hv with ⟨h1,e⟩|⟨h0,h1,e⟩|⟨h0,h1,e⟩|⟨h0,e⟩
 ·rw[e]
  simp only[List.flatMap_cons,List.flatMap_nil,List.append_nil]
  have hu:=gV c (by omega)
  unfold qb qc qZ
  rw[hu]
  by_cases SI:c=34
  ·subst SI; rfl
  by_cases h92:c=92
  ·subst h92; rfl
  by_cases h8:c=8
  ·subst h8; rfl
  by_cases h9:c=9
  ·subst h9; rfl
  by_cases h10:c=10
  ·subst h10; rfl
  by_cases h12:c=12
  ·subst h12; rfl
  by_cases h13:c=13
  ·subst h13; rfl
  simp only[SI,h92,h8,h9,h10,h12,h13,or_self,if_false,ne_eq,not_true_eq_false]
  by_cases h32:c<32
  ·simp only[h32,if_true]
  ·simp only[h32,if_false]
   rw[e]
 ·have hq:qc c=enc c:=qc_enc (by unfold qZ; rw[if_neg (by omega),if_neg (by omega),if_neg (by omega),if_neg (by omega),if_neg (by omega),if_neg (by omega)]) (by omega)
  rw[hq,e]
  simp only[List.flatMap_cons,List.flatMap_nil,List.append_nil]
  rw[Hg (by rw[gV _ (by omega)]; omega),Hg (by rw[gV _ (by omega)]; omega)]; rfl
 ·have hq:qc c=enc c:=qc_enc (by unfold qZ; rw[if_neg (by omega),if_neg (by omega),if_neg (by omega),if_neg (by omega),if_neg (by omega),if_neg (by omega)]) (by omega)
  rw[hq,e]
  simp only[List.flatMap_cons,List.flatMap_nil,List.append_nil]
  rw[Hg (by rw[gV _ (by omega)]; omega),Hg (by rw[gV _ (by omega)]; omega),Hg (by rw[gV _ (by omega)]; omega)]; rfl
 ·have hq:qc c=enc c:=qc_enc (by unfold qZ; rw[if_neg (by omega),if_neg (by omega),if_neg (by omega),if_neg (by omega),if_neg (by omega),if_neg (by omega)]) (by omega)
  rw[hq,e]
  simp only[List.flatMap_cons,List.flatMap_nil,List.append_nil]
  rw[Hg (by rw[gV _ (by omega)]; omega),Hg (by rw[gV _ (by omega)]; omega),Hg (by rw[gV _ (by omega)]; omega),Hg (by rw[gV _ (by omega)]; omega)]; rfl
theorem qb_encL:∀(rs:List Nat),(∀c∈rs,vr c)→(fo rs).flatMap qb=Vh rs
 | [],_=>rfl
 | c::rs,h=>by
  have e:fo (c::rs)=enc c++fo rs:=by simp[fo]
  have e2:Vh (c::rs)=qc c++Vh rs:=by simp[Vh]
  rw[e,e2,List.flatMap_append,qb_enc (h c (by simp)),qb_encL rs (fun x hx=>h x (by simp[hx]))]
end Go.Proofs.YtidfokedcnhahaaGreatDoor
end
