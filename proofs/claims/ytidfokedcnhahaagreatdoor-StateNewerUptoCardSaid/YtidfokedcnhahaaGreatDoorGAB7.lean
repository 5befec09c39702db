/-
  GA, part 7 of 10.
-/
import Derived.Lib.ValidLaws
import Derived.Lib.MapLaws
import Derived.Lib.TrimUEq
import Derived.Lib.RuneBytes
import Derived.KernelRfl
import Derived.Lib.ItoaMem
import Derived.Test.YtidfokedcnhahaaGreatDoorGAB6
set_option linter.unusedSimpArgs false
set_option linter.unnecessarySimpa false
set_option linter.unusedVariables false
set_option linter.unusedSectionVars false
noncomputable section
set_option maxRecDepth 100000
namespace Go.aq
open Go.Lib
def vr (c:Nat):Prop:=c<55296∨(57344≤c∧c≤1114111)
instance (c:Nat):Decidable (vr c):=inferInstanceAs (Decidable (_∨_))
def enc (c:Nat):ag:=encodeRune (c:Int)
theorem enc1 {c:Nat} (h:c<128):enc c = [UInt8.ofNat c]:=by
 unfold enc encodeRune encodeRuneZ
 rw[if_pos (by omega)]
 rfl
theorem enc2 {c:Nat} (h0:128≤c) (h:c<2048):enc c = [UInt8.ofNat (192+c / 64),UInt8.ofNat (128+c % 64)]:=by
 unfold enc encodeRune encodeRuneZ
 rw[if_neg (by omega),if_pos (by omega)]
 have e1:(192+(c:Int) / 64).toNat=192+c / 64:=by omega
 have e2:(128+(c:Int) % 64).toNat=128+c % 64:=by omega
 simp only[List.map_cons,List.map_nil,e1,e2]
theorem enc3 {c:Nat} (h0:2048≤c) (h:c<65536) (hv:vr c):enc c = [UInt8.ofNat (224+c / 4096),UInt8.ofNat (128+c / 64 % 64),UInt8.ofNat (128+c % 64)]:=by
 unfold vr at hv
 unfold enc encodeRune encodeRuneZ
 rw[if_neg (by omega),if_neg (by omega),if_pos (by omega)]
 have e1:(224+(c:Int) / 4096).toNat=224+c / 4096:=by omega
 have e2:(128+(c:Int) / 64 % 64).toNat=128+c / 64 % 64:=by omega
 have e3:(128+(c:Int) % 64).toNat=128+c % 64:=by omega
 simp only[List.map_cons,List.map_nil,e1,e2,e3]
theorem enc4 {c:Nat} (h0:65536≤c) (h:c<1114112):enc c = [UInt8.ofNat (240+c / 262144),UInt8.ofNat (128+c / 4096 % 64),UInt8.ofNat (128+c / 64 % 64),UInt8.ofNat (128+c % 64)]:=by
 unfold enc encodeRune encodeRuneZ
 rw[if_neg (by omega),if_neg (by omega),if_neg (by omega),if_pos (by omega)]
 have e1:(240+(c:Int) / 262144).toNat=240+c / 262144:=by omega
 have e2:(128+(c:Int) / 4096 % 64).toNat=128+c / 4096 % 64:=by omega
 have e3:(128+(c:Int) / 64 % 64).toNat=128+c / 64 % 64:=by omega
 have e4:(128+(c:Int) % 64).toNat=128+c % 64:=by omega
 simp only[List.map_cons,List.map_nil,e1,e2,e3,e4]
theorem gW (n:Nat) (h:n<256):(UInt8.ofNat n).toNat=n:=by
 simp only[UInt8.toNat_ofNat']
 omega
theorem vr_lt {c:Nat} (h:vr c):c<1114112:=by unfold vr at h; omega
theorem Lw {c:Nat} (hv:vr c):(c<128∧enc c = [UInt8.ofNat c])∨(128≤c∧c<2048∧enc c = [UInt8.ofNat (192+c / 64),UInt8.ofNat (128+c % 64)]) ∨
  (2048≤c∧c<65536∧enc c = [UInt8.ofNat (224+c / 4096),UInt8.ofNat (128+c / 64 % 64),UInt8.ofNat (128+c % 64)]) ∨
  (65536≤c∧enc c = [UInt8.ofNat (240+c / 262144),UInt8.ofNat (128+c / 4096 % 64),UInt8.ofNat (128+c / 64 % 64),UInt8.ofNat (128+c % 64)]):=by
 have:=vr_lt hv
 by_cases h1:c<128
 ·exact .inl ⟨h1,enc1 h1⟩
 by_cases h2:c<2048
 ·exact .inr (.inl ⟨by omega,h2,enc2 (by omega) h2⟩)
 by_cases h3:c<65536
 ·exact .inr (.inr (.inl ⟨by omega,h3,enc3 (by omega) h3 hv⟩))
 ·exact .inr (.inr (.inr ⟨by omega,enc4 (by omega) this⟩))
theorem JI {c:Nat} (hv:vr c):1≤(enc c).length∧(enc c).length≤4:=by
 rcases Lw hv with ⟨_,e⟩|⟨_,_,e⟩|⟨_,_,e⟩|⟨_,e⟩ <;> rw[e] <;> simp
theorem U1 {c:Nat} (hv:vr c) (t:ag):decodeL (enc c++t)=(c,(enc c).length):=by
 have je:=vr_lt hv
 unfold vr at hv
 rw[decodeL_N]
 rcases Lw hv with ⟨h1,e⟩|⟨h0,h1,e⟩|⟨h0,h1,e⟩|⟨h0,e⟩ <;> rw[e]
 ·simp only[List.cons_append,List.getD_cons_zero,gW c (by omega)]
  exact decodeN_ascii _ _ _ _ _ h1
 ·simp only[List.cons_append,List.nil_append,List.getD_cons_zero,List.getD_cons_succ,gW (192+c / 64) (by omega),gW (128+c % 64) (by omega),List.length_cons]
  unfold decodeN
  rw[if_neg (by omega),if_pos ⟨by omega,by omega,by omega⟩,if_pos (by omega)]
  refine Prod.ext ?_ rfl
  show (192+c / 64) % 32*64+(128+c % 64) % 64=c
  omega
 ·simp only[List.cons_append,List.nil_append,List.getD_cons_zero,List.getD_cons_succ,gW (224+c / 4096) (by omega),gW (128+c / 64 % 64) (by omega),gW (128+c % 64) (by omega),List.length_cons]
  unfold decodeN
  have k:(224+c / 4096) % 16*4096+(128+c / 64 % 64) % 64*64+(128+c % 64) % 64=c:=by omega
  rw[if_neg (by omega),if_neg (by omega),if_pos ⟨by omega,⟨by omega,by omega⟩,by omega,by omega⟩,k,if_pos (by omega)]
  simp only[List.length_nil]
 ·simp only[List.cons_append,List.nil_append,List.getD_cons_zero,List.getD_cons_succ,gW (240+c / 262144) (by omega),gW (128+c / 4096 % 64) (by omega),gW (128+c / 64 % 64) (by omega),gW (128+c % 64) (by omega),List.length_cons]
  unfold decodeN
  have k:(240+c / 262144) % 8*262144+(128+c / 4096 % 64) % 64*4096+(128+c / 64 % 64) % 64*64+(128+c % 64) % 64=c:=by omega
  rw[if_neg (by omega),if_neg (by omega),if_neg (by omega),if_pos ⟨by omega,⟨by omega,by omega⟩,⟨by omega,by omega⟩,by omega,by omega⟩,k,if_pos (by omega)]
  simp only[List.length_nil]
def good (l:ag):Prop:=¬((decodeL l).1=65533∧(decodeL l).2=1)
instance (l:ag):Decidable (good l):=inferInstanceAs (Decidable (¬_))
theorem good_enc {c:Nat} (hv:vr c) (t:ag):good (enc c++t):=by
 unfold good
 rw[U1 hv t]
 rintro ⟨h1,h2⟩
 simp only at h1 h2
 rw[h1]at h2
 rw[enc3 (by omega) (by omega) (by unfold vr; omega)]at h2
 cases h2
theorem decodeN_vr (n b0 b1 b2 b3:Nat) (h0:b0<256):vr (decodeN n b0 b1 b2 b3).1:=by
 unfold vr decodeN
 repeat' split
 all_goals simp only
 all_goals omega
theorem dec_vr (l:ag):vr (decodeL l).1:=by
 rw[decodeL_N]
 exact decodeN_vr _ _ _ _ _ (UInt8.toNat_lt _)
theorem dec_good {l:ag} (jA:l ≠ []) (h:good l):l=enc (decodeL l).1++l.drop (decodeL l).2∧(enc (decodeL l).1).length=(decodeL l).2:=by
 have h1:=encode_decode l jA h
 have h2:=decodeL_le l jA
 refine ⟨?_,?_⟩
 ·unfold enc
  rw[h1,List.take_append_drop]
 ·unfold enc
  rw[h1,List.length_take]
  omega
theorem W9 {l:ag} (jA:l ≠ []):fE l=if good l then fE (l.drop (decodeL l).2)else false:=by
 unfold fE
 rw[validD_step l jA]
 by_cases h:good l
 ·rw[if_pos h,if_neg (show ¬((decodeL l).1=65533∧(decodeL l).2=1)from h)]
 ·rw[if_neg h,if_pos (Decidable.not_not.1 h)]
theorem enc_ne {c:Nat} (hv:vr c) (t:ag):enc c++t ≠ []:=by
 have:=JI hv
 intro e
 have:=congrArg List.length e
 rw[List.length_append,List.length_nil]at this
 omega
theorem validS_enc {c:Nat} (hv:vr c) (t:ag):fE (enc c++t)=fE t:=by
 rw[W9 (enc_ne hv t),if_pos (good_enc hv t),U1 hv t]
 simp
def fp (rs:List Nat):ag:=rs.flatMap enc
theorem Xa:∀(rs:List Nat),(∀c∈rs,vr c)→∀t,fE (fp rs++t)=fE t
 | [],_,t=>rfl
 | c::rs,h,t=>by
  have:fp (c::rs)++t=enc c++(fp rs++t):=by simp[fp]
  rw[this,validS_enc (h c (by simp)),Xa rs (fun x hx=>h x (by simp[hx]))]
theorem Xb:∀(n:Nat) (l:ag),l.length≤n→fE l=true→∃rs:List Nat,(∀c∈rs,vr c)∧l=fp rs
 | 0,l,hl,_=>⟨[],by simp,List.eq_nil_of_length_eq_zero (by omega)⟩
 | n+1,l,hl,h=>by
  by_cases jA:l = []
  ·exact ⟨[],by simp,jA⟩
  rw[W9 jA]at h
  split at h
  ·rename_i hg
   obtain ⟨h1,h2⟩:=dec_good jA hg
   have h3:=JI (dec_vr l)
   obtain ⟨rs,hr,e⟩:=Xb n (l.drop (decodeL l).2) (by rw[List.length_drop]; omega) h
   refine ⟨(decodeL l).1::rs,?_,?_⟩
   ·intro c hc
    rcases List.mem_cons.1 hc with rfl|hc
    ·exact dec_vr l
    ·exact hr c hc
   ·exact h1.trans ((congrArg (enc (decodeL l).1 ++ ·) e).trans (by simp[fp]))
  ·cases h
theorem Hx {l:ag}:fE l=true↔∃rs:List Nat,(∀c∈rs,vr c)∧l=fp rs:=by
 refine ⟨Xb l.length l (Nat.le_refl _),?_⟩
 rintro ⟨rs,hr,rfl⟩
 have:=Xa rs hr []
 rw[List.append_nil]at this
 rw[this]; rfl
theorem P6 {s t:ag} {i:Nat} (h:i<s.length):(s++t).getD i 0=s.getD i 0:=by
 simp[List.getD,List.getElem?_append_left h]
theorem Xc {s t:ag} {x:UInt8}:(s++x::t).getD s.length 0=x:=by
 simp[List.getD]
end Go.aq
set_option maxRecDepth 100000
namespace Go.Proofs.YtidfokedcnhahaaGreatDoor
open Go Go.aq
def yx (n:Int):Prop := -9223372036854775808≤n∧n≤9223372036854775807
theorem nV {n:Int}:IntKind.i64.has n↔yx n:=by
 unfold IntKind.has yx
 simp only[IntKind.min,IntKind.max,IntKind.bits,IntKind.signed]
 simp
theorem wrap32_id {n:Int} (h1:0≤n) (h2:n<1114112):IntKind.i32.wrap n=n:=by
 simp only[IntKind.wrap,IntKind.bits,IntKind.signed,IntKind.min,IntKind.max]
 simp
 omega
theorem encL_snoc (rs:List Nat) (c:Nat):fp (rs ++ [c])=fp rs++enc c:=by simp[fp]
theorem aQ {p:Prop} [Decidable p] (h:p):decide p=true:=decide_eq_true h
theorem cv {p:Prop} [Decidable p] (h:¬p):decide p=false:=decide_eq_false h
end Go.Proofs.YtidfokedcnhahaaGreatDoor
namespace Go.Proofs.YtidfokedcnhahaaGreatDoor.Pu
open Go Go.aq
theorem jok_mk {k m e:Int} {t:ag} {ns:List ag} {xs:List Json} (hk:yx k) (hm:yx m) (he:yx e) (ht:t.length≤1099511627776) (hn:ns.length≤1099511627776) (TY:∀s∈ns,s.length≤1099511627776) (hx:xs.length≤1099511627776) (hxs:∀y∈xs,Hk y) :
  Hk ⟨k,⟨m,e⟩,t,ns,xs⟩:=by
 intro c hc
 simp only[Ty.cells,List.mem_cons,List.not_mem_nil,or_false]at hc
 rcases hc with rfl|rfl|rfl|rfl|rfl|rfl
 ·exact .int (nV.2 hk)
 ·exact .int (nV.2 hm)
 ·exact .int (nV.2 he)
 ·exact .str ht
 ·exact .sl hn fun s hs v hv=>by
   simp only[Ty.cells,List.mem_singleton]at hv
   subst hv
   exact .str (TY s hs)
 ·exact .sl hx fun y hy v hv=>hxs y hy v hv
def mk:List ag→List Json→List ag→List Json→List ag×List Json
 | n::ns,x::xs,a,b=>if a.contains n then mk ns xs a b else mk ns xs (a ++ [n]) (b ++ [x])
 | [],_,a,b=>(a,b)
 | _::_, [],a,b=>(a,b)
theorem Wg {R:Type} (ns:List ag) (xs:List Json) (hx:xs.length≤ns.length) (hn:ns.length≤1099511627776) (hj:∀y∈xs,Hk y) (p q r:Int) (t:ag) (a b c:Int) (u:ag)
  (e0:Int→Int→Int→ag→Int→Int→Int→ag→List ag→List Json→Option R):∀(n i:Nat) (l:List ag) (m:List Json),i≤xs.length→xs.length - i<n→l.length=m.length→l.length≤i →
  dz n ns xs (xs.length:Int) (i:Int) p q r t a b c u l m e0=e0 p q r t a b c u (mk (ns.drop i) (xs.drop i) l m).1 (mk (ns.drop i) (xs.drop i) l m).2:=by
 intro n
 induction n with
 | zero=>intro i l m _ h; omega
 | succ n ih =>
  intro i l m hi hni hlm hli
  show xq _ _ (fun x1 x2 x3 x4 x5 x6 x7 x8 x9 x10 x11 x12 VZ XA=>dz n x1 x2 x3 x4 x5 x6 x7 x8 x9 x10 x11 x12 VZ XA e0) _ _ _ _ _ _ _ _ _ _ _ _ _ _ e0=_
  unfold xq
  by_cases h:i<xs.length
  ·have h1:decide ((i:Int)<(xs.length:Int))=true:=by simp; omega
   have h2:(decide ((0:Int)≤(i:Int))&&true)=true:=by simp
   have h2':(decide ((0:Int)≤(i:Int))&&decide ((i:Int)<ns.length))=true:=by simp; omega
   have hw:IntKind.i64.wrap ((i:Int)+1)=((i+1:Nat):Int):=by rw[cL (by omega) (by omega)]; omega
   have hg:xs.getD (i:Int).toNat (Ty.bR .json)=xs[i]:=getD_at h _
   have hg':ns.getD (i:Int).toNat (Ty.bR .str)=ns[i]:=getD_at (by omega) _
   have hr1:decide ((l.length+1)*16≤140737488355328)=true:=by simp; omega
   have hr2:decide ((m.length+1)*88≤140737488355328)=true:=by simp; omega
   rw[h1,cond_true,ay h2,ay h2',hg,hg',contains_eq l (by omega),Json.eta,hw]
   rw[List.drop_eq_getElem_cons h,List.drop_eq_getElem_cons (show i<ns.length by omega)]
   simp only[mk]
   cases hc:l.contains ns[i]with
   | true =>
    simp only[Bool.not_true,cond_false,if_true]
    exact ih (i+1) l m (by omega) (by omega) hlm (by omega)
   | false =>
    simp only[Bool.not_false,cond_true,Bool.false_eq_true,if_false]
    rw[ay h2',ay hr1,fresh_eq _ (hj _ (List.getElem_mem h)),ay hr2,Json.eta]
    exact ih (i+1) (l ++ [ns[i]]) (m ++ [xs[i]]) (by omega) (by omega) (by simp[hlm]) (by first|omega|(simp; done)|(simp; omega))
  ·have h1:decide ((i:Int)<(xs.length:Int))=false:=by simp; omega
   rw[h1,cond_false,List.drop_eq_nil_of_le (show xs.length≤i by omega)]
   have:∀ns:List ag,mk ns [] l m=(l,m):=fun ns=>by cases ns <;> rfl
   rw[this]
theorem make_eq {R:Type} (ns:List ag) (xs:List Json) (hn:ns.length≤1099511627776) (hj:∀y∈xs,Hk y) (k:Json→Option R) :
  dK ns xs k=k ⟨7,⟨0,0⟩, [],(mk ns xs [] []).1,(mk ns xs [] []).2⟩:=by
 unfold dK ML
 have hm:(min (xs.length:Int) (ns.length:Int)).toNat - 0=min xs.length ns.length:=by omega
 rw[ay (by first|omega|(simp; done)|(simp; omega)),ay (by first|omega|(simp; done)|(simp; omega)),hm,List.drop_zero]
 have hl:(xs.take (min xs.length ns.length)).length=min xs.length ns.length:=by simp
 refine (Wg ns (xs.take (min xs.length ns.length)) (by rw[hl]; omega) hn (fun y hy=>hj y (List.mem_of_mem_take hy)) 0 0 0 [] 7 0 0 [] _ _ 0 [] [] (by omega) (by first|omega|(simp; done)|(simp; omega)) rfl (by simp)).trans ?_
 have key:∀(ns:List ag) (xs:List Json) (a:List ag) (b:List Json),mk ns (xs.take (min xs.length ns.length)) a b=mk ns xs a b:=by
  intro ns
  induction ns with
  | nil=>intro xs a b; cases xs <;> simp[mk]
  | cons n ns ih =>
   intro xs a b
   cases xs with
   | nil=>simp
   | cons x xs =>
    have:min (x::xs).length (n::ns).length=min xs.length ns.length+1:=by simp only[List.length_cons]; omega
    rw[this,List.take_succ_cons]
    simp only[mk,ih]
 simp only[List.drop_zero,key]
theorem Hk.ao {x:Json} (h:Hk x):yx x.num.ao:=nV.1 (h (.int .i64 x.num.ao) (by simp[Ty.cells])).fi
theorem Hk.exp {x:Json} (h:Hk x):yx x.num.exp:=nV.1 (h (.int .i64 x.num.exp) (by simp[Ty.cells])).fi
def Nj:Nat→Int→Option Int
 | 0,n=>some n
 | k+1,n=>if -100000000000000000≤n∧n≤100000000000000000 then Nj k (n*10)else none
def Tu (d:fT):Bool:=if d.ao=0 then decide (d.exp=0)else (decide (Int.tmod d.ao 10≠0)&&(decide (-1000000000000000≤d.ao)&&decide (d.ao≤1000000000000000)))&&(decide (-9≤d.exp)&&decide (d.exp≤9))
def tw (d:fT):Option Int:=if Tu d=true∧0≤d.exp then Nj d.exp.toNat d.ao else none
theorem Hy {R:Type} (a b c:Int) (k:Bool→Option R):az a b c k=k (decide (a≤b)&&decide (b≤c)):=by
 unfold az mu
 cases decide (a≤b) <;> rfl
theorem right_eq {R:Type} (d:fT) (k:Bool→Option R):bS d k=k (Tu d):=by
 unfold bS jD Tu
 simp only[Hy]
 by_cases h:d.ao=0
 ·have h1:(d.ao==0)=true:=by simpa using h
  rw[h1,cond_true,if_pos h]
  rfl
 ·have h1:(d.ao==0)=false:=by simpa using h
  rw[h1,cond_false,if_neg h]
  by_cases hq:Int.tmod d.ao 10=0
  ·have h2:(Int.tmod d.ao 10 != 0)=false:=by simp[hq]
   rw[h2,cond_false]
   simp[hq]
  ·have h2:(Int.tmod d.ao 10 != 0)=true:=by simp[hq]
   rw[h2,cond_true]
   cases hw:(decide (-1000000000000000≤d.ao)&&decide (d.ao≤1000000000000000))with
   | true=>simp[hq]
   | false=>simp[hq]
theorem shift_loop {R:Type} (e0:Int→Option R) (e1:Int→Bool→Int→Option R) (f:Int→Bool→Option R) (h1:∀x,e1 0 false x=f 0 false) (h0:∀x,e0 x=f x true) (m:Nat) (hm:m≤9223372036854775806) :
  ∀(n i:Nat) (x:Int),i≤m→m - i<n → -1000000000000000000≤x→x≤1000000000000000000 →
  cy n x (m:Int) (i:Int) e0 e1=match Nj (m - i) x with|some y=>f y true|none=>f 0 false:=by
 intro n
 induction n with
 | zero=>intro i x _ h; omega
 | succ n ih =>
  intro i x hi hn hx1 hx2
  show o7 az (fun a b c=>cy n a b c e0 e1) _ _ _ e0 e1=_
  unfold o7
  by_cases h:i<m
  ·have c1:decide ((i:Int)<(m:Int))=true:=by simp; omega
   have hw:IntKind.i64.wrap ((i:Int)+1)=((i+1:Nat):Int):=by rw[cL (by omega) (by omega)]; omega
   have e:m - i=(m - (i+1))+1:=by omega
   rw[c1,cond_true,Hy,e]
   simp only[Nj]
   by_cases hb : -100000000000000000≤x∧x≤100000000000000000
   ·have hd:(decide (-100000000000000000≤x)&&decide (x≤100000000000000000))=true:=by simp; exact hb
    rw[hd,if_pos hb]
    simp only[Bool.not_true,cond_false,hw]
    rw[cL (by omega) (by omega)]
    exact ih (i+1) (x*10) (by omega) (by omega) (by omega) (by omega)
   ·have hd:(decide (-100000000000000000≤x)&&decide (x≤100000000000000000))=false:=by
     simp only[Bool.and_eq_false_imp,decide_eq_true_eq,decide_eq_false_iff_not]
     exact fun q1 q2=>hb ⟨q1,q2⟩
    rw[hd,if_neg hb]
    simp only[Bool.not_false,cond_true]
    exact h1 x
  ·have c1:decide ((i:Int)<(m:Int))=false:=by simp; omega
   have e:m - i=0:=by omega
   rw[c1,cond_false,e]
   exact h0 x
theorem VI {R:Type} (d:fT) (k:Int→Bool→Option R):mz d k=match tw d with|some n=>k n true|none=>k 0 false:=by
 unfold mz Ks
 rw[right_eq]
 cases hr:Tu d with
 | false =>
  have:tw d=none:=by unfold tw; rw[if_neg (by simp[hr])]
  rw[this]; rfl
 | true =>
  by_cases he:d.exp<0
  ·have:tw d=none:=by unfold tw; rw[if_neg (by omega)]
   have c:decide (d.exp<(0:Int))=true:=by simpa using he
   rw[this]
   simp only[Bool.not_true,cond_false,c,cond_true]
  ·have c:decide (d.exp<(0:Int))=false:=by simpa using he
   have hb : -1000000000000000≤d.ao∧d.ao≤1000000000000000∧d.exp≤9:=by
    unfold Tu at hr
    split at hr
    ·simp at hr; omega
    ·simp at hr; omega
   have e:tw d=Nj d.exp.toNat d.ao:=by unfold tw; rw[if_pos ⟨hr,by omega⟩]
   rw[e]
   simp only[Bool.not_true,cond_false,c]
   unfold iM B6
   rw[cL (by omega) (by omega)]
   have ec:d.exp - 0=((d.exp.toNat:Nat):Int):=by omega
   rw[ec]
   exact shift_loop _ _ (fun a b=>k a b) (fun x=>rfl) (fun x=>rfl) d.exp.toNat (by omega) _ 0 d.ao (by omega) (by omega) (by omega) (by omega)
def U2 (x:Json):Option Int:=if x.kind=4 then tw x.num else none
theorem num_eq {R:Type} (x:Json) (k:Int→Bool→Option R):∃z:Int,sG x k=match U2 x with|some n=>k n true|none=>k z false:=by
 unfold sG P1 U2
 have eta:(⟨x.num.ao,x.num.exp⟩:fT)=x.num:=rfl
 simp only[VI]
 by_cases h:x.kind=4
 ·have h1:(x.kind==4)=true:=by simpa using h
  refine ⟨0,?_⟩
  rw[if_pos h]
  cases hd:tw x.num with
  | some n=>simp only[hd,cond_true,h1]
  | none=>simp only[hd,cond_false]
 ·have h1:(x.kind==4)=false:=by simpa using h
  refine ⟨(tw x.num).getD 0,?_⟩
  rw[if_neg h]
  cases hd:tw x.num with
  | some n=>simp only[hd,cond_true,h1,Option.getD_some]
  | none=>simp only[hd,cond_false,Option.getD_none]
def at7 (v:Json) (s:ag):Option Json:=if v.kind=7 then look s v.names v.items else none
theorem B8 {R:Type} (v:Json) (hv:Hk v) (s:ag) (k:Int→Bool→Option R):bP v s k=match (at7 v s).bind U2 with|some n=>k n true|none=>k 0 false:=by
 unfold bP P5 gG yw
 simp only[Json.eta]
 rw[find_eq v hv]
 show (match at7 v s with|some x=>_|none=>_)=_
 cases at7 v s with
 | none=>rfl
 | some x =>
  simp only[Bool.not_true,cond_false,Option.bind_some]
  obtain ⟨z,hz⟩:=num_eq x (fun y5 y6=>bif y6 then (k y5 true)else (k 0 false))
  refine hz.trans ?_
  cases U2 x <;> rfl
def textF (x:Json):Option ag:=if x.kind=5 then some x.text else none
theorem Text_eq {R:Type} (v:Json) (hv:Hk v) (s:ag) (k:ag→Bool→Option R):oU v s k=match (at7 v s).bind textF with|some n=>k n true|none=>k [] false:=by
 unfold oU M7 fb tF mj H9
 simp only[Json.eta]
 rw[find_eq v hv]
 show (match at7 v s with|some x=>_|none=>_)=_
 cases at7 v s with
 | none=>rfl
 | some x =>
  simp only[Bool.not_true,cond_false,Option.bind_some,textF]
  by_cases h:x.kind=5
  ·have h1:(x.kind==5)=true:=by simpa using h
   simp only[h1,cond_true,if_pos h]
  ·have h1:(x.kind==5)=false:=by simpa using h
   simp only[h1,cond_false,if_neg h]
def Xd (x:Json):Option Bool:=if x.kind=3 then some true else if x.kind=2 then some false else none
theorem flag_eq {R:Type} (x:Json) (k:Bool→Bool→Option R):oW x k=match Xd x with|some b=>k b true|none=>k false false:=by
 unfold oW Nc Xd
 by_cases h:x.kind=3
 ·have h1:(x.kind==3)=true:=by simpa using h
  simp only[h1,cond_true,if_pos h]
 ·have h1:(x.kind==3)=false:=by simpa using h
  by_cases h':x.kind=2
  ·have h2:(x.kind==2)=true:=by simpa using h'
   simp only[h1,h2,cond_false,if_neg h,if_pos h']
  ·have h2:(x.kind==2)=false:=by simpa using h'
   simp only[h1,h2,cond_false,if_neg h,if_neg h']
theorem Ys {R:Type} (v:Json) (hv:Hk v) (s:ag) (k:Bool→Bool→Option R):gQ v s k=match (at7 v s).bind Xd with|some n=>k n true|none=>k false false:=by
 unfold gQ Ni fY wY
 simp only[Json.eta]
 rw[find_eq v hv]
 show (match at7 v s with|some x=>_|none=>_)=_
 cases at7 v s with
 | none=>rfl
 | some x =>
  simp only[Bool.not_true,cond_false,Option.bind_some,flag_eq]
  cases Xd x <;> rfl
end Go.Proofs.YtidfokedcnhahaaGreatDoor.Pu
/-
 Functions of the program as pure Lean functions, and the ties; printed by wip/tools/emit.py.
-/
set_option maxRecDepth 100000
namespace Go.Proofs.YtidfokedcnhahaaGreatDoor
open Go Go.aq
variable {R:Type}
/-! ### humpyard/humpyardref01.Make -/
abbrev Kt (R:Type):Type:=Int→Int→(fT→Bool→Option R)→Option R
abbrev Nk:List cY := [.leaf (.int .i64), .leaf (.int .i64)]
abbrev Nl:List aY := []
def SH (fn:Kt R):jU R Nk Nl:=fun x y k=>fn x.1 x.2.1 (fun q0 q1=>k (.tuple [.agg [.int .i64 q0.ao, .int .i64 q0.exp], .bool q1]) [])
def ref01_Make_s (fn:Kt R):=aC Nk Nl (SH fn)
abbrev B9 (R:Type):Type:=Nat→Int→Int→fT→(Int→Int→fT→Option R)→(Int→Int→Bool→fT→Option R)→Option R
def xC:Hint := { live := [0,1,4],own := [],rows := [],cells := [],drop := [],out := [0,1,4,5] }
abbrev ox:Type:=Int×Int×fT
def AH:ox→St:=fun d=>⟨.int .i64 d.1 :: .int .i64 d.2.1::U 2 (.ptr 0 0::U 32 ([])), [.cells [.int .i64 d.2.2.ao, .int .i64 d.2.2.exp]]⟩
def Ca (K:Ex→St→Option R) (q0:Int) (q1:Int) (q2:fT):Option R:=K (.exit 0) ⟨.int .i64 q0 :: .int .i64 q1::U 2 (.ptr 0 0::U 32 ([])), [.cells [.int .i64 q2.ao, .int .i64 q2.exp]]⟩
def Cb (K:Ex→St→Option R) (q0:Int) (q1:Int) (q2:Bool) (q3:fT):Option R:=K (.ret) ⟨.int .i64 q0 :: .int .i64 q1::U 2 (.ptr 0 0 :: .bool q2::U 31 ([])), [.cells [.int .i64 q3.ao, .int .i64 q3.exp]]⟩
abbrev sH:List cY := .leaf (.int .i64) :: .leaf (.int .i64)::PU 2 (.leaf (.ptr 0 0)::PU 32 ([]))
abbrev sI:List aY := [.cells [.int .i64, .int .i64]]
def Lx (x:cY.cD sH) (y:aY.cD sI):Nat:=(Int.natAbs x.1+Int.natAbs x.2.1+fT.fu (⟨y.1.1,y.1.2.1⟩:fT)+64)
def Wh (x:cY.cD sH) (y:aY.cD sI):ox:=(x.1,x.2.1,(⟨y.1.1,y.1.2.1⟩:fT))
def JJ (L:B9 R):Ed R sH sI:=fun x y K=>L (Lx x y) x.1 x.2.1 (⟨y.1.1,y.1.2.1⟩:fT) (Ca K) (Cb K)
section
variable (cF:B9 R)
def jX (fc:Int→Int→fT→Option R) (x3:Int) (x4:Int) (x5:fT) (e0:Int→Int→fT→Option R) (e1:Int→Int→Bool→fT→Option R):Option R :=
 bif ((Int.tmod x3 10)==0)then (bif (decide (x4>(1099511627776:Int)))then (e1 (IntKind.i64.wrap (Int.tdiv x3 10)) x4 false (⟨0,0⟩:fT))else (fc (IntKind.i64.wrap (Int.tdiv x3 10)) (IntKind.i64.wrap (x4+1)) x5))else (e0 x3 x4 x5)
def Ly (K:Ex→St→Option R) (rc:ox→Option R) (d:ox):Option R:=jX (fun z0 z1 z2=>rc (z0,z1,z2)) d.1 d.2.1 d.2.2 (Ca K) (Cb K)
def Cc:Nat→Option (Hint×dE R):=fun i=>match i with
 | 3=>some (xC,(dR sH sI (JJ cF) lM))
 | _=>none
theorem R2 (K:Ex→St→Option R) (rc:St→Option R) (d:ox):roundOf tt (dy []) (Cc cF) 0 ((aN (bm Tryz.f101)).getD 0 .skip) xC (AH d) rc K=Ly K (fun d=>rc (AH d)) d:=by kernel_rfl
def tK (x1:Int) (x2:Int) (k0:fT→Bool→Option R):Option R :=
 bif (x1==0)then (k0 (⟨0,0⟩:fT) true)else (cF (Int.natAbs x1+Int.natAbs x2+fT.fu (⟨0,0⟩:fT)+64) x1 x2 (⟨0,0⟩:fT) (fun y6 y7 y8=>bif (decide (y6>(1000000000000000:Int)))then (k0 (⟨0,0⟩:fT) false)else (bif (decide (y6<(-1000000000000000:Int)))then (k0 (⟨0,0⟩:fT) false)else (bif (decide (y7>(9:Int)))then (k0 (⟨0,0⟩:fT) false)else (bif (decide (y7<(-9:Int)))then (k0 (⟨0,0⟩:fT) false)else (k0 (⟨y6,y7⟩:fT) true))))) (fun y9 od ug zj=>k0 zj ug))
theorem ref01_Make_ok:dD (R:=R) tt [] (Cc cF) false Tryz.f101 Nk Nl (SH (tK cF)):=fun x y k=>by kernel_rfl
end
def cF:B9 R
 | 0,_,_,_,_,_=>none
 | n+1,jf,jj,jr,e0,e1=>jX (fun jf jj jr=>cF n jf jj jr e0 e1) jf jj jr e0 e1
def Lz (K:Ex→St→Option R) (n:Nat) (d:ox):Option R:=cF n d.1 d.2.1 d.2.2 (Ca K) (Cb K)
theorem U3 (other:dE R) (ho:ki tt (dy []) (Cc (R:=R) cF) 0 ((aN (bm Tryz.f101)).getD 0 .skip) xC other):ki tt (dy []) (Cc (R:=R) cF) 0 ((aN (bm Tryz.f101)).getD 0 .skip) xC (dR sH sI (JJ (cF)) other) :=
 ei (A:=Lz) ho (gd AH (Ly) (Lz) (fun _ _=>by kernel_rfl) (R2 cF) (fun _ _ _=>by kernel_rfl)) Lx Wh (fun _ _=>by kernel_rfl) (fun _ _ _=>by kernel_rfl)
def tL:Kt R:=fun x1 x2 k0=>tK cF x1 x2 k0
theorem Wi (R:Type):∀a∈aN (bm Tryz.f101),ji tt (dy []) (Cc (R:=R) cF) 0 a:=by
 refine gR 1 (by kernel_rfl) fun i hi => ?_
 match i,hi with
 | 0,_=>exact dH (by kernel_rfl) (U3 _ fm)
 | n+1,hi=>omega
theorem ref01_Make_S_ok (R:Type):jT Tryz.prog 101 (ref01_Make_s (tL (R:=R))):=bj TT mixed .n rfl rfl rfl rfl (Wi R) (ref01_Make_ok cF)
end Go.Proofs.YtidfokedcnhahaaGreatDoor
/-
 Functions of the program as pure Lean functions, and the ties; printed by wip/tools/emit.py.
-/
set_option maxRecDepth 100000
namespace Go.Proofs.YtidfokedcnhahaaGreatDoor
open Go Go.aq
variable {R:Type}
/-! ### humpyard/humpyardref04.has -/
abbrev Hl (R:Type):Type:=(List ag)→ag→(Bool→Option R)→Option R
abbrev P7:List cY := [.leaf (.sl .str), .leaf (.str)]
abbrev P8:List aY := []
def U4 (fn:Hl R):jU R P7 P8:=fun x y k=>fn x.1 x.2.1 (fun q0=>k (.bool q0) [])
def Xe (fn:Hl R):=aC P7 P8 (U4 fn)
abbrev Eo (R:Type):Type:=Nat→(List ag)→ag→Int→(Option R)→(Bool→Option R)→Option R
def Ae:Hint := { live := [0,1,5],own := [],rows := [],cells := [],drop := [],out := [4] }
abbrev pM:Type:=(List ag)×ag×Int
def Cd:pM→St:=fun d=>⟨.sl .str d.1 .no :: .str d.2.1::U 3 (.int .i64 d.2.2::U 12 ([])), []⟩
def Ep (K:Ex→St→Option R):Option R:=K (.exit 0) ⟨U 18 ([]), []⟩
def Er (K:Ex→St→Option R) (q0:Bool):Option R:=K (.ret) ⟨U 4 (.bool q0::U 13 ([])), []⟩
abbrev uE:List cY := .leaf (.sl .str) :: .leaf (.str)::PU 3 (.leaf (.int .i64)::PU 12 ([]))
abbrev uF:List aY := []
def Ou (x:cY.cD uE) (y:aY.cD uF):Nat:=(List.length x.1+List.length x.2.1+Int.natAbs x.2.2.2.2.2.1+64)
def XT (x:cY.cD uE) (y:aY.cD uF):pM:=(x.1,x.2.1,x.2.2.2.2.2.1)
def LA (L:Eo R):Ed R uE uF:=fun x y K=>L (Ou x y) x.1 x.2.1 x.2.2.2.2.2.1 (Ep K) (Er K)
section
variable (eO:Eo R)
def Ov (fc:(List ag)→ag→Int→Option R) (x3:List ag) (x4:ag) (x5:Int) (e0:Option R) (e1:Bool→Option R):Option R :=
 bif (decide (x5<(x3.length:Int)))then (cw (decide ((0:Int)≤x5)&&decide (x5<x3.length)) (bif ((x3.getD x5.toNat (Ty.bR .str))==x4)then (e1 true)else (fc x3 x4 (IntKind.i64.wrap (x5+1)))))else (e0)
def Ow (K:Ex→St→Option R) (rc:pM→Option R) (d:pM):Option R:=Ov (fun z0 z1 z2=>rc (z0,z1,z2)) d.1 d.2.1 d.2.2 (Ep K) (Er K)
def Fh:Nat→Option (Hint×dE R):=fun i=>match i with
 | 2=>some (Ae,(dR uE uF (LA eO) lM))
 | _=>none
theorem Tv (K:Ex→St→Option R) (rc:St→Option R) (d:pM):roundOf tt (dy []) (Fh eO) 0 ((aN (bm Tryz.f154)).getD 0 .skip) Ae (Cd d) rc K=Ow K (fun d=>rc (Cd d)) d:=by kernel_rfl
def Xf (x1:List ag) (x2:ag) (k0:Bool→Option R):Option R :=
 eO (List.length x1+List.length x2+Int.natAbs 0+64) x1 x2 0 (k0 false) (fun y6=>k0 y6)
theorem ref04_has_ok:dD (R:=R) tt [] (Fh eO) false Tryz.f154 P7 P8 (U4 (Xf eO)):=fun x y k=>by kernel_rfl
end
def eO:Eo R
 | 0,_,_,_,_,_=>none
 | n+1,jf,jj,jr,e0,e1=>Ov (fun jf jj jr=>eO n jf jj jr e0 e1) jf jj jr e0 e1
def Ox (K:Ex→St→Option R) (n:Nat) (d:pM):Option R:=eO n d.1 d.2.1 d.2.2 (Ep K) (Er K)
theorem Wj (other:dE R) (ho:ki tt (dy []) (Fh (R:=R) eO) 0 ((aN (bm Tryz.f154)).getD 0 .skip) Ae other):ki tt (dy []) (Fh (R:=R) eO) 0 ((aN (bm Tryz.f154)).getD 0 .skip) Ae (dR uE uF (LA (eO)) other) :=
 ei (A:=Ox) ho (gd Cd (Ow) (Ox) (fun _ _=>by kernel_rfl) (Tv eO) (fun _ _ _=>by kernel_rfl)) Ou XT (fun _ _=>by kernel_rfl) (fun _ _ _=>by kernel_rfl)
def iw:Hl R:=fun x1 x2 k0=>Xf eO x1 x2 k0
theorem XU (R:Type):∀a∈aN (bm Tryz.f154),ji tt (dy []) (Fh (R:=R) eO) 0 a:=by
 refine gR 1 (by kernel_rfl) fun i hi => ?_
 match i,hi with
 | 0,_=>exact dH (by kernel_rfl) (Wj _ fm)
 | n+1,hi=>omega
theorem ZY (R:Type):jT Tryz.prog 154 (Xe (iw (R:=R))):=bj TT mixed .n rfl rfl rfl rfl (XU R) (ref04_has_ok eO)
end Go.Proofs.YtidfokedcnhahaaGreatDoor
/-
 Functions of the program as pure Lean functions, and the ties; printed by wip/tools/emit.py.
-/
set_option maxRecDepth 100000
namespace Go.Proofs.YtidfokedcnhahaaGreatDoor
open Go Go.aq
variable {R:Type}
/-! ### humpyard/quote.Quote -/
abbrev wZ (R:Type):Type:=ag→(ag→Bool→Option R)→Option R
abbrev Ku:List cY := [.leaf (.str)]
abbrev Kv:List aY := []
def P9 (fn:wZ R):jU R Ku Kv:=fun x y k=>fn x.1 (fun q0 q1=>k (.tuple [.str q0, .bool q1]) [])
def Kw (fn:wZ R):=aC Ku Kv (P9 fn)
abbrev AI (R:Type):Type:=Nat→(List Int)→ag→Nat→((List Int)→Option R)→Option R
def wi:Hint := { live := [4,13],own := [],rows := [],cells := [],drop := [],out := [2,3,4] }
abbrev mN:Type:=(List Int)×ag×Nat
def yy:mN→St:=fun d=>⟨U 4 (.ptr 0 0::U 8 (.ptr 1 0::U 27 ([]))), [.mE (.sl (.int .u8) d.1 (.own 2)), .iter d.2.1 d.2.2, .tok]⟩
def AJ (K:Ex→St→Option R) (q0:List Int):Option R:=K (.exit 0) ⟨U 4 (.ptr 0 0::U 36 ([])), [.mE (.sl (.int .u8) q0 (.own 1)), .tok]⟩
abbrev qq:List cY:=PU 4 (.leaf (.ptr 0 0)::PU 8 (.leaf (.ptr 1 0)::PU 27 ([])))
abbrev qs:List aY := [.mE (.Yn (.int .u8) 2), .iter, .tok]
def JK (x:cY.cD qq) (y:aY.cD qs):Nat:=(List.length y.1+List.length y.2.1.1+64)
def U5 (x:cY.cD qq) (y:aY.cD qs):mN:=(y.1,y.2.1.1,y.2.1.2)
def Ib (L:AI R):Ed R qq qs:=fun x y K=>L (JK x y) y.1 y.2.1.1 y.2.1.2 (AJ K)
section
variable (bU:sf R) (aj:ez R) (ad:eA R) (fo:BS R) (ae:de R) (ak:fq R) (cO:AI R)
def uU:List (lC R) := [(165,true,(EJ bU av)),(126,false,(hU ad (hQ aj av))),(169,true,(Sv fo av)),(124,false,(fk ae av)),(170,false,(kF ak av)),(84,false,(MH R))]
def kN (fc:(List Int)→ag→Nat→Option R) (x4:List Int) (x5:ag) (x6:Nat) (e0:(List Int)→Option R):Option R :=
 bif decide (x6<x5.length)then (fo ((mo x5 x6).1:Int) (fun y7=>bif (y7 != 0)then (ad 92 x4 (fun y8=>ad y7 y8 (fun y9=>fc y9 x5 (x6+(mo x5 x6).2))))else (bif (decide (((mo x5 x6).1:Int)<(32:Int)))then (ae ([92,117,48,48]:ag) x4 (fun od ug=>cw (decide ((0:Int)≤(Int.fdiv ((mo x5 x6).1:Int) (2 ^ (min 4 IntKind.i32.bits))))&&decide ((Int.fdiv ((mo x5 x6).1:Int) (2 ^ (min 4 IntKind.i32.bits)))<(16:Int))) (ad ((([48,49,50,51,52,53,54,55,56,57,97,98,99,100,101,102]:ag).getD ((Int.fdiv ((mo x5 x6).1:Int) (2 ^ (min 4 IntKind.i32.bits))).toNat) 0).toNat:Int) ug (fun zj=>cw (decide ((0:Int)≤(IntKind.i32.wrap ((BitVec.ofInt IntKind.i32.bits ((mo x5 x6).1:Int) &&& BitVec.ofInt IntKind.i32.bits 15).toNat:Int)))&&decide ((IntKind.i32.wrap ((BitVec.ofInt IntKind.i32.bits ((mo x5 x6).1:Int) &&& BitVec.ofInt IntKind.i32.bits 15).toNat:Int))<(16:Int))) (ad ((([48,49,50,51,52,53,54,55,56,57,97,98,99,100,101,102]:ag).getD ((IntKind.i32.wrap ((BitVec.ofInt IntKind.i32.bits ((mo x5 x6).1:Int) &&& BitVec.ofInt IntKind.i32.bits 15).toNat:Int)).toNat) 0).toNat:Int) zj (fun FW=>fc FW x5 (x6+(mo x5 x6).2)))))))else (ak ((mo x5 x6).1:Int) x4 (fun Gm Ej=>fc Ej x5 (x6+(mo x5 x6).2))))))else (e0 x4)
def JL (K:Ex→St→Option R) (rc:mN→Option R) (d:mN):Option R:=kN ad fo ae ak (fun z0 z1 z2=>rc (z0,z1,z2)) d.1 d.2.1 d.2.2 (AJ K)
def zS:Nat→Option (Hint×dE R):=fun i=>match i with
 | 6=>some (wi,(dR qq qs (Ib cO) lM))
 | _=>none
theorem Qa (K:Ex→St→Option R) (rc:St→Option R) (d:mN):roundOf tt (dy (uU bU aj ad fo ae ak)) (zS cO) 0 ((aN (bm Tryz.f123)).getD 0 .skip) wi (yy d) rc K=JL ad fo ae ak K (fun d=>rc (yy d)) d:=by kernel_rfl
def uV (x1:ag) (k0:ag→Bool→Option R):Option R :=
 bU x1 (fun y2=>bif (!y2)then (k0 ([]:ag) false)else (aj 34 (fun y3=>cO (List.length y3+List.length x1+64) y3 x1 0 (fun Ar=>ad 34 Ar (fun K2=>k0 (wm K2) true)))))
theorem ZZ:dD (R:=R) tt (uU bU aj ad fo ae ak) (zS cO) false Tryz.f123 Ku Kv (P9 (uV bU aj ad cO)):=fun x y k=>by kernel_rfl
end
theorem XV:cr (R:=R) Tryz.prog (uU (R:=R) bU aj ad fo ae ak) := .c (Eh R) <| .f (jv R _ (ju R _ (fA _))) rfl <| .c (Wa R) <| .d (fZ R) rfl <| .d (om R) rfl <| .s (Yq) Rt <| .n
def cO:AI R
 | 0,_,_,_,_=>none
 | n+1,jf,jj,jr,e0=>kN ad fo ae ak (fun jf jj jr=>cO n jf jj jr e0) jf jj jr e0
def JM (K:Ex→St→Option R) (n:Nat) (d:mN):Option R:=cO n d.1 d.2.1 d.2.2 (AJ K)
theorem Tw (other:dE R) (ho:ki tt (dy (uU (R:=R) bU aj ad fo ae ak)) (zS (R:=R) cO) 0 ((aN (bm Tryz.f123)).getD 0 .skip) wi other):ki tt (dy (uU (R:=R) bU aj ad fo ae ak)) (zS (R:=R) cO) 0 ((aN (bm Tryz.f123)).getD 0 .skip) wi (dR qq qs (Ib (cO)) other) :=
 ei (A:=JM) ho (gd yy (JL ad fo ae ak) (JM) (fun _ _=>by kernel_rfl) (Qa bU aj ad fo ae ak cO) (fun _ _ _=>by kernel_rfl)) JK U5 (fun _ _=>by kernel_rfl) (fun _ _ _=>by kernel_rfl)
def eG:wZ R:=fun x1 k0=>uV bU aj ad cO x1 k0
theorem U6 (R:Type):∀a∈aN (bm Tryz.f123),ji tt (dy (uU (R:=R) bU aj ad fo ae ak)) (zS (R:=R) cO) 0 a:=by
 refine gR 1 (by kernel_rfl) fun i hi => ?_
 match i,hi with
 | 0,_=>exact dH (by kernel_rfl) (Tw _ fm)
 | n+1,hi=>omega
theorem LB (R:Type):jT Tryz.prog 123 (Kw (eG (R:=R))):=bj TT mixed (XV (R:=R)) rfl rfl rfl rfl (U6 R) (ZZ bU aj ad fo ae ak cO)
/-! ### humpyard/json.write$1 -/
abbrev qu (R:Type):Type:=ag→((List Int)→Option R)→Option R
abbrev yz:List cY := [.leaf (.str), .leaf (.ptr 0 0)]
abbrev yA:List aY := [.cells [.ptr 1 0], .mE (.cx)]
def Fi (fn:qu R):jU R yz yA:=fun x y k=>fn x.1 (fun q0=>k (.tuple []) [.cells [.ptr 1 0], .mE (.sl (.int .u8) q0 (.own 2)), .tok])
def Gz (fn:qu R):=aC yz yA (Fi fn)
section
variable (eG:wZ R) (ai:dT R)
def GA:List (lC R) := [(123,true,(Kw eG av)),(124,false,(gP ai av))]
def GB (x1:ag) (k0:(List Int)→Option R):Option R :=
 eG x1 (fun y2 y3=>ai y2 (fun y4 y5=>k0 y5))
theorem Qb:dD (R:=R) tt (GA eG ai) nK false Tryz.f122 yz yA (Fi (GB eG ai)):=fun x y k=>by kernel_rfl
end
theorem OU:cr (R:=R) Tryz.prog (GA (R:=R) eG ai) := .c (LB R) <| .d (iS R) rfl <| .n
def dL:qu R:=fun x1 k0=>GB eG ai x1 k0
theorem Nn (R:Type):jT Tryz.prog 122 (Gz (dL (R:=R))):=bj TT mixed (OU (R:=R)) rfl rfl rfl rfl bX (Qb eG ai)
/-! ### humpyard/json.write$1 -/
abbrev mA (R:Type):Type:=ag→(List Int)→((List Int)→Option R)→Option R
abbrev yB:List cY := [.leaf (.str), .leaf (.ptr 0 0)]
abbrev yC:List aY := [.cells [.ptr 1 0], .mE (.Yn (.int .u8) 2), .tok]
def Fj (fn:mA R):jU R yB yC:=fun x y k=>fn x.1 y.2.1 (fun q0=>k (.tuple []) [.cells [.ptr 1 0], .mE (.sl (.int .u8) q0 (.own 3)), .dead, .tok])
def yD (fn:mA R):=aC yB yC (Fj fn)
section
variable (eG:wZ R) (ae:de R)
def GC:List (lC R) := [(123,true,(Kw eG av)),(124,false,(fk ae av))]
def GD (x1:ag) (x2:List Int) (k0:(List Int)→Option R):Option R :=
 eG x1 (fun y3 y4=>ae y3 x2 (fun y5 y6=>k0 y6))
theorem Qc:dD (R:=R) tt (GC eG ae) nK false Tryz.f122 yB yC (Fj (GD eG ae)):=fun x y k=>by kernel_rfl
end
theorem OV:cr (R:=R) Tryz.prog (GC (R:=R) eG ae) := .c (LB R) <| .d (fZ R) rfl <| .n
def aL:mA R:=fun x1 x2 k0=>GD eG ae x1 x2 k0
theorem Ce (R:Type):jT Tryz.prog 122 (yD (aL (R:=R))):=bj TT mixed (OV (R:=R)) rfl rfl rfl rfl bX (Qc eG ae)
/-! ### humpyard/json.write -/
abbrev dk (R:Type):Type:=Json→(List Int)→((List Int)→Option R)→Option R
abbrev ij:List cY := [.leaf (.ptr 0 0), .agg [.int .i64, .int .i64, .int .i64, .str, .sl .str, .sl .json]]
abbrev im:List aY := [.mE (.Yn (.int .u8) 1), .tok]
def eP (fn:dk R):jU R ij im:=fun x y k=>fn (⟨x.2.1.1,⟨x.2.1.2.1,x.2.1.2.2.1⟩,x.2.1.2.2.2.1,x.2.1.2.2.2.2.1,x.2.1.2.2.2.2.2.1⟩:Json) y.1 (fun q0=>k (.tuple []) [.mE (.sl (.int .u8) q0 (.own 2)), .dead, .tok])
def JN (fn:dk R):=aC ij im (eP fn)
abbrev sJ (R:Type):Type:=Nat→ag→(List Json)→Int→Int→(List Int)→Json→(ag→(List Int)→Option R)→Option R
def nW:Hint := { live := [2,3,4,5,43,44,45],own := [],rows := [],cells := [],drop := [],out := [2,5] }
abbrev iY:Type:=ag×(List Json)×Int×Int×(List Int)×Json
def qS:iY→St:=fun d=>⟨U 2 (.ptr 2 0 :: .ptr 3 0 :: .func 122 [] [.ptr 2 0] :: .str d.1::U 37 (.sl .json d.2.1 .no :: .int .i64 d.2.2.1 :: .int .i64 d.2.2.2.1::U 28 ([]))), [.mE (.sl (.int .u8) d.2.2.2.2.1 (.own 4)), .dead, .cells [.ptr 0 0], .cells [.int .i64 d.2.2.2.2.2.kind, .int .i64 d.2.2.2.2.2.num.ao, .int .i64 d.2.2.2.2.2.num.exp, .str d.2.2.2.2.2.text, .sl .str d.2.2.2.2.2.names .no, .sl .json d.2.2.2.2.2.items .no], .tok]⟩
def sK (K:Ex→St→Option R) (q0:ag) (q1:List Int):Option R:=K (.exit 1) ⟨U 2 (.ptr 2 0::U 2 (.str q0::U 68 ([]))), [.mE (.sl (.int .u8) q1 (.own 3)), .dead, .cells [.ptr 0 0], .tok]⟩
abbrev kO:List cY:=PU 2 (.leaf (.ptr 2 0) :: .leaf (.ptr 3 0) :: .func 122 [] [.ptr 2 0] :: .leaf (.str)::PU 37 (.leaf (.sl .json) :: .leaf (.int .i64) :: .leaf (.int .i64)::PU 28 ([])))
abbrev kP:List aY := [.mE (.Yn (.int .u8) 4), .dead, .cells [.ptr 0 0], .cells [.int .i64, .int .i64, .int .i64, .str, .sl .str, .sl .json], .tok]
def Cf (x:cY.cD kO) (y:aY.cD kP):Nat:=(List.length x.2.2.2.2.2.1+List.length ((t8 (t8 (t8 (t8 (t8 x))))).2.2.2.1)+Int.natAbs ((t8 (t8 (t8 (t8 (t8 x))))).2.2.2.2.1)+Int.natAbs ((t8 (t8 (t8 (t8 (t8 x))))).2.2.2.2.2.1)+List.length y.1+Json.fu (⟨y.2.2.2.1.1,⟨y.2.2.2.1.2.1,y.2.2.2.1.2.2.1⟩,y.2.2.2.1.2.2.2.1,y.2.2.2.1.2.2.2.2.1,y.2.2.2.1.2.2.2.2.2.1⟩:Json)+64)
def Np (x:cY.cD kO) (y:aY.cD kP):iY:=(x.2.2.2.2.2.1,(t8 (t8 (t8 (t8 (t8 x))))).2.2.2.1,(t8 (t8 (t8 (t8 (t8 x))))).2.2.2.2.1,(t8 (t8 (t8 (t8 (t8 x))))).2.2.2.2.2.1,y.1,(⟨y.2.2.2.1.1,⟨y.2.2.2.1.2.1,y.2.2.2.1.2.2.1⟩,y.2.2.2.1.2.2.2.1,y.2.2.2.1.2.2.2.2.1,y.2.2.2.1.2.2.2.2.2.1⟩:Json))
def A7 (L:sJ R):Ed R kO kP:=fun x y K=>L (Cf x y) x.2.2.2.2.2.1 ((t8 (t8 (t8 (t8 (t8 x))))).2.2.2.1) ((t8 (t8 (t8 (t8 (t8 x))))).2.2.2.2.1) ((t8 (t8 (t8 (t8 (t8 x))))).2.2.2.2.2.1) y.1 (⟨y.2.2.2.1.1,⟨y.2.2.2.1.2.1,y.2.2.2.1.2.2.1⟩,y.2.2.2.1.2.2.2.1,y.2.2.2.1.2.2.2.2.1,y.2.2.2.1.2.2.2.2.2.1⟩:Json) (sK K)
section
variable (bT:si R) (ad:eA R) (ae:de R) (aA:dk R) (aL:mA R) (aT:sJ R)
def mO:List (lC R) := [(125,true,(FZ bT av)),(126,false,(hU ad av)),(124,false,(fk ae av)),(83,false,(aC ij im (eP aA) av)),(122,false,(yD aL av))]
def iZ (fc:ag→(List Json)→Int→Int→(List Int)→Json→Option R) (oa:ag) (uR:List Json) (mm:Int) (wx:Int) (Dq:List Int) (Gr:Json) (e0:ag→(List Int)→Option R):Option R :=
 bif (decide (wx<mm))then (cw (decide ((0:Int)≤wx)&&decide (wx<uR.length)) (bif (decide (wx>(0:Int)))then (ad 44 Dq (fun C6=>bif (Gr.kind==7)then (cw (decide ((0:Int)≤wx)&&decide (wx<Gr.names.length)) (aL (Gr.names.getD wx.toNat (Ty.bR .str)) C6 (fun Yr=>ad 58 Yr (fun Sn=>aA (⟨(uR.getD wx.toNat (Ty.bR .json)).kind,⟨(uR.getD wx.toNat (Ty.bR .json)).num.ao,(uR.getD wx.toNat (Ty.bR .json)).num.exp⟩,(uR.getD wx.toNat (Ty.bR .json)).text,(uR.getD wx.toNat (Ty.bR .json)).names,(uR.getD wx.toNat (Ty.bR .json)).items⟩:Json) Sn (fun y24=>fc oa uR mm (IntKind.i64.wrap (wx+1)) y24 (⟨Gr.kind,⟨Gr.num.ao,Gr.num.exp⟩,Gr.text,Gr.names,Gr.items⟩:Json))))))else (aA (⟨(uR.getD wx.toNat (Ty.bR .json)).kind,⟨(uR.getD wx.toNat (Ty.bR .json)).num.ao,(uR.getD wx.toNat (Ty.bR .json)).num.exp⟩,(uR.getD wx.toNat (Ty.bR .json)).text,(uR.getD wx.toNat (Ty.bR .json)).names,(uR.getD wx.toNat (Ty.bR .json)).items⟩:Json) C6 (fun AY=>fc oa uR mm (IntKind.i64.wrap (wx+1)) AY (⟨Gr.kind,⟨Gr.num.ao,Gr.num.exp⟩,Gr.text,Gr.names,Gr.items⟩:Json)))))else (bif (Gr.kind==7)then (cw (decide ((0:Int)≤wx)&&decide (wx<Gr.names.length)) (aL (Gr.names.getD wx.toNat (Ty.bR .str)) Dq (fun I1=>ad 58 I1 (fun FJ=>aA (⟨(uR.getD wx.toNat (Ty.bR .json)).kind,⟨(uR.getD wx.toNat (Ty.bR .json)).num.ao,(uR.getD wx.toNat (Ty.bR .json)).num.exp⟩,(uR.getD wx.toNat (Ty.bR .json)).text,(uR.getD wx.toNat (Ty.bR .json)).names,(uR.getD wx.toNat (Ty.bR .json)).items⟩:Json) FJ (fun Pd=>fc oa uR mm (IntKind.i64.wrap (wx+1)) Pd (⟨Gr.kind,⟨Gr.num.ao,Gr.num.exp⟩,Gr.text,Gr.names,Gr.items⟩:Json))))))else (aA (⟨(uR.getD wx.toNat (Ty.bR .json)).kind,⟨(uR.getD wx.toNat (Ty.bR .json)).num.ao,(uR.getD wx.toNat (Ty.bR .json)).num.exp⟩,(uR.getD wx.toNat (Ty.bR .json)).text,(uR.getD wx.toNat (Ty.bR .json)).names,(uR.getD wx.toNat (Ty.bR .json)).items⟩:Json) Dq (fun W4=>fc oa uR mm (IntKind.i64.wrap (wx+1)) W4 (⟨Gr.kind,⟨Gr.num.ao,Gr.num.exp⟩,Gr.text,Gr.names,Gr.items⟩:Json))))))else (e0 oa Dq)
def Cg (K:Ex→St→Option R) (rc:iY→Option R) (d:iY):Option R:=iZ ad aA aL (fun z0 z1 z2 z3 z4 z5=>rc (z0,z1,z2,z3,z4,z5)) d.1 d.2.1 d.2.2.1 d.2.2.2.1 d.2.2.2.2.1 d.2.2.2.2.2 (sK K)
def qv:Nat→Option (Hint×dE R):=fun i=>match i with
 | 18=>some (nW,(dR kO kP (A7 aT) lM))
 | _=>none
theorem Jb (K:Ex→St→Option R) (rc:St→Option R) (d:iY):roundOf tt (dy (mO bT ad ae aA aL)) (qv aT) 2 ((aN (bm Tryz.f83)).getD 0 .skip) nW (qS d) rc K=Cg ad aA aL K (fun d=>rc (qS d)) d:=by kernel_rfl
def Ch (x1:Json) (x2:List Int) (k0:(List Int)→Option R):Option R :=
 let j33:=fun (z13:ag)=>cw (decide ((0:Int)<z13.length)) (ad ((z13.getD 0 0).toNat:Int) x2 (fun Gm=>aT (List.length z13+List.length x1.items+Int.natAbs (x1.items.length:Int)+Int.natAbs 0+List.length Gm+Json.fu (⟨x1.kind,⟨x1.num.ao,x1.num.exp⟩,x1.text,x1.names,x1.items⟩:Json)+64) z13 x1.items (x1.items.length:Int) 0 Gm (⟨x1.kind,⟨x1.num.ao,x1.num.exp⟩,x1.text,x1.names,x1.items⟩:Json) (fun OO XL=>cw (decide ((1:Int)<OO.length)) (ad ((OO.getD 1 0).toNat:Int) XL (fun HY=>k0 HY))))); bif (x1.kind==1)then (ae ([110,117,108,108]:ag) x2 (fun y3 y4=>k0 y4))else (bif (x1.kind==2)then (ae ([102,97,108,115,101]:ag) x2 (fun y5 y6=>k0 y6))else (bif (x1.kind==3)then (ae ([116,114,117,101]:ag) x2 (fun y7 y8=>k0 y8))else (bif (x1.kind==4)then (bT x1.num (fun y9=>ae y9 x2 (fun od ug=>k0 ug)))else (bif (x1.kind==5)then (aL x1.text x2 (fun zj=>k0 zj))else (bif (x1.kind==7)then (j33 ([123,125]:ag))else (j33 ([91,93]:ag)))))))
theorem Tx:dD (R:=R) tt (mO bT ad ae aA aL) (qv aT) false Tryz.f83 ij im (eP (Ch bT ad ae aL aT)):=fun x y k=>by kernel_rfl
end
theorem R3 (aA:dk R) (nF:aq.Spec.Ok Tryz.prog 83 (aC ij im (eP aA) av)):cr (R:=R) Tryz.prog (mO (R:=R) bT ad ae aA aL) := .c (HW R) <| .d (jv R) rfl <| .d (fZ R) rfl <| .f nF rfl <| .d (Ce R) rfl <| .n
def aT (aA:dk R):sJ R
 | 0,_,_,_,_,_,_,_=>none
 | n+1,jf,jj,jr,ur,Eg,FT,e0=>iZ ad aA aL (fun jf jj jr ur Eg FT=>aT aA n jf jj jr ur Eg FT e0) jf jj jr ur Eg FT e0
def Ci (aA:dk R) (K:Ex→St→Option R) (n:Nat) (d:iY):Option R:=aT aA n d.1 d.2.1 d.2.2.1 d.2.2.2.1 d.2.2.2.2.1 d.2.2.2.2.2 (sK K)
theorem LC (aA:dk R) (other:dE R) (ho:ki tt (dy (mO (R:=R) bT ad ae aA aL)) (qv (R:=R) (aT aA)) 2 ((aN (bm Tryz.f83)).getD 0 .skip) nW other):ki tt (dy (mO (R:=R) bT ad ae aA aL)) (qv (R:=R) (aT aA)) 2 ((aN (bm Tryz.f83)).getD 0 .skip) nW (dR kO kP (A7 (aT aA)) other) :=
 ei (A:=Ci aA) ho (gd qS (Cg ad aA aL) (Ci aA) (fun _ _=>by kernel_rfl) (Jb bT ad ae aA aL (aT aA)) (fun _ _ _=>by kernel_rfl)) Cf Np (fun _ _=>by kernel_rfl) (fun _ _ _=>by kernel_rfl)
def Cj (aA:dk R):dk R:=fun x1 x2 k0=>Ch bT ad ae aL (aT aA) x1 x2 k0
theorem OW (R:Type) (aA:dk R) (nF:aq.Spec.Ok Tryz.prog 83 (aC ij im (eP aA) av)):∀a∈aN (bm Tryz.f83),ji tt (dy (mO (R:=R) bT ad ae aA aL)) (qv (R:=R) (aT aA)) 2 a:=by
 refine gR 1 (by kernel_rfl) fun i hi => ?_
 match i,hi with
 | 0,_=>exact dH (by kernel_rfl) (LC aA _ fm)
 | n+1,hi=>omega
theorem OX (R:Type) (aA:dk R) (nF:aq.Spec.Ok Tryz.prog 83 (aC ij im (eP aA) av)):jT Tryz.prog 83 (JN (Cj aA)):=bj TT mixed (R3 aA nF) rfl rfl rfl rfl (OW R aA nF) (Tx bT ad ae aA aL (aT aA))
def dm:Nat→dk R
 | 0,_,_,_=>none
 | n+1,jf,jj,k0'=>Cj (dm n) jf jj k0'
theorem json_write_9953_N_succ (n:Nat):dm (R:=R) (n+1)=Cj (dm n):=by kernel_rfl
theorem Qd (R:Type):∀n,aq.Spec.Ok Tryz.prog 83 (aC ij im (eP (dm (R:=R) n)) av) :=
 AX (run:=fun n=>eP (dm (R:=R) n)) (fun x y k=>by kernel_rfl) fun n hyp=>OX R (dm n) hyp av (fA _)
def cp:dk R:=fun x1 x2 k0=>dm (Json.depth x1+2) x1 x2 k0
theorem Qe (R:Type):eP (R:=R) cp=fun x y k=>eP (dm (Json.depth (⟨x.2.1.1,⟨x.2.1.2.1,x.2.1.2.2.1⟩,x.2.1.2.2.2.1,x.2.1.2.2.2.2.1,x.2.1.2.2.2.2.2.1⟩:Json)+2)) x y k:=by kernel_rfl
theorem Qf (R:Type) (other:aq.Spec R) (ho:aq.Spec.Ok Tryz.prog 83 other):aq.Spec.Ok Tryz.prog 83 (aC ij im (eP cp) other) :=
 HM (Lg (run:=fun n=>eP (dm (R:=R) n)) (fun x y=>(Json.depth (⟨x.2.1.1,⟨x.2.1.2.1,x.2.1.2.2.1⟩,x.2.1.2.2.2.1,x.2.1.2.2.2.2.1,x.2.1.2.2.2.2.2.1⟩:Json)+2)) ho (Qd R)) (Qe R)
end Go.Proofs.YtidfokedcnhahaaGreatDoor
/-
 Functions of the program as pure Lean functions, and the ties; printed by wip/tools/emit.py.
-/
set_option maxRecDepth 100000
namespace Go.Proofs.YtidfokedcnhahaaGreatDoor
open Go Go.aq
variable {R:Type}
/-! ### humpyard/json.write -/
abbrev tM (R:Type):Type:=Json→((List Int)→Option R)→Option R
abbrev Ck:List cY := [.leaf (.ptr 0 0), .agg [.int .i64, .int .i64, .int .i64, .str, .sl .str, .sl .json]]
abbrev Cl:List aY := [.mE (.cx)]
def Ic (fn:tM R):jU R Ck Cl:=fun x y k=>fn (⟨x.2.1.1,⟨x.2.1.2.1,x.2.1.2.2.1⟩,x.2.1.2.2.2.1,x.2.1.2.2.2.2.1,x.2.1.2.2.2.2.2.1⟩:Json) (fun q0=>k (.tuple []) [.mE (.sl (.int .u8) q0 (.own 1)), .tok])
def JO (fn:tM R):=aC Ck Cl (Ic fn)
abbrev sL (R:Type):Type:=Nat→ag→(List Json)→Int→Int→(List Int)→Json→(ag→(List Int)→Option R)→Option R
def nX:Hint := { live := [2,3,4,5,43,44,45],own := [],rows := [],cells := [],drop := [],out := [2,5] }
abbrev ja:Type:=ag×(List Json)×Int×Int×(List Int)×Json
def qT:ja→St:=fun d=>⟨U 2 (.ptr 1 0 :: .ptr 2 0 :: .func 122 [] [.ptr 1 0] :: .str d.1::U 37 (.sl .json d.2.1 .no :: .int .i64 d.2.2.1 :: .int .i64 d.2.2.2.1::U 28 ([]))), [.mE (.sl (.int .u8) d.2.2.2.2.1 (.own 3)), .cells [.ptr 0 0], .cells [.int .i64 d.2.2.2.2.2.kind, .int .i64 d.2.2.2.2.2.num.ao, .int .i64 d.2.2.2.2.2.num.exp, .str d.2.2.2.2.2.text, .sl .str d.2.2.2.2.2.names .no, .sl .json d.2.2.2.2.2.items .no], .tok]⟩
def sM (K:Ex→St→Option R) (q0:ag) (q1:List Int):Option R:=K (.exit 1) ⟨U 2 (.ptr 1 0::U 2 (.str q0::U 68 ([]))), [.mE (.sl (.int .u8) q1 (.own 2)), .cells [.ptr 0 0], .tok]⟩
abbrev kQ:List cY:=PU 2 (.leaf (.ptr 1 0) :: .leaf (.ptr 2 0) :: .func 122 [] [.ptr 1 0] :: .leaf (.str)::PU 37 (.leaf (.sl .json) :: .leaf (.int .i64) :: .leaf (.int .i64)::PU 28 ([])))
abbrev kR:List aY := [.mE (.Yn (.int .u8) 3), .cells [.ptr 0 0], .cells [.int .i64, .int .i64, .int .i64, .str, .sl .str, .sl .json], .tok]
def Cm (x:cY.cD kQ) (y:aY.cD kR):Nat:=(List.length x.2.2.2.2.2.1+List.length ((t8 (t8 (t8 (t8 (t8 x))))).2.2.2.1)+Int.natAbs ((t8 (t8 (t8 (t8 (t8 x))))).2.2.2.2.1)+Int.natAbs ((t8 (t8 (t8 (t8 (t8 x))))).2.2.2.2.2.1)+List.length y.1+Json.fu (⟨y.2.2.1.1,⟨y.2.2.1.2.1,y.2.2.1.2.2.1⟩,y.2.2.1.2.2.2.1,y.2.2.1.2.2.2.2.1,y.2.2.1.2.2.2.2.2.1⟩:Json)+64)
def Nq (x:cY.cD kQ) (y:aY.cD kR):ja:=(x.2.2.2.2.2.1,(t8 (t8 (t8 (t8 (t8 x))))).2.2.2.1,(t8 (t8 (t8 (t8 (t8 x))))).2.2.2.2.1,(t8 (t8 (t8 (t8 (t8 x))))).2.2.2.2.2.1,y.1,(⟨y.2.2.1.1,⟨y.2.2.1.2.1,y.2.2.1.2.2.1⟩,y.2.2.1.2.2.2.1,y.2.2.1.2.2.2.2.1,y.2.2.1.2.2.2.2.2.1⟩:Json))
def A8 (L:sL R):Ed R kQ kR:=fun x y K=>L (Cm x y) x.2.2.2.2.2.1 ((t8 (t8 (t8 (t8 (t8 x))))).2.2.2.1) ((t8 (t8 (t8 (t8 (t8 x))))).2.2.2.2.1) ((t8 (t8 (t8 (t8 (t8 x))))).2.2.2.2.2.1) y.1 (⟨y.2.2.1.1,⟨y.2.2.1.2.1,y.2.2.1.2.2.1⟩,y.2.2.1.2.2.2.1,y.2.2.1.2.2.2.2.1,y.2.2.1.2.2.2.2.2.1⟩:Json) (sM K)
section
variable (bT:si R) (aj:ez R) (ad:eA R) (ai:dT R) (cp:dk R) (dL:qu R) (aL:mA R) (bI:sL R)
def mP:List (lC R) := [(125,true,(FZ bT av)),(126,false,(hU ad (hQ aj av))),(124,false,(gP ai av)),(83,false,(JN cp av)),(122,false,(yD aL (Gz dL av)))]
def Cn (fc:ag→(List Json)→Int→Int→(List Int)→Json→Option R) (XA:ag) (oa:List Json) (uR:Int) (mm:Int) (wx:List Int) (Dq:Json) (e0:ag→(List Int)→Option R):Option R :=
 bif (decide (mm<uR))then (cw (decide ((0:Int)≤mm)&&decide (mm<oa.length)) (bif (decide (mm>(0:Int)))then (ad 44 wx (fun Li=>bif (Dq.kind==7)then (cw (decide ((0:Int)≤mm)&&decide (mm<Dq.names.length)) (aL (Dq.names.getD mm.toNat (Ty.bR .str)) Li (fun C6=>ad 58 C6 (fun Yr=>cp (⟨(oa.getD mm.toNat (Ty.bR .json)).kind,⟨(oa.getD mm.toNat (Ty.bR .json)).num.ao,(oa.getD mm.toNat (Ty.bR .json)).num.exp⟩,(oa.getD mm.toNat (Ty.bR .json)).text,(oa.getD mm.toNat (Ty.bR .json)).names,(oa.getD mm.toNat (Ty.bR .json)).items⟩:Json) Yr (fun Sn=>fc XA oa uR (IntKind.i64.wrap (mm+1)) Sn (⟨Dq.kind,⟨Dq.num.ao,Dq.num.exp⟩,Dq.text,Dq.names,Dq.items⟩:Json))))))else (cp (⟨(oa.getD mm.toNat (Ty.bR .json)).kind,⟨(oa.getD mm.toNat (Ty.bR .json)).num.ao,(oa.getD mm.toNat (Ty.bR .json)).num.exp⟩,(oa.getD mm.toNat (Ty.bR .json)).text,(oa.getD mm.toNat (Ty.bR .json)).names,(oa.getD mm.toNat (Ty.bR .json)).items⟩:Json) Li (fun y24=>fc XA oa uR (IntKind.i64.wrap (mm+1)) y24 (⟨Dq.kind,⟨Dq.num.ao,Dq.num.exp⟩,Dq.text,Dq.names,Dq.items⟩:Json)))))else (bif (Dq.kind==7)then (cw (decide ((0:Int)≤mm)&&decide (mm<Dq.names.length)) (aL (Dq.names.getD mm.toNat (Ty.bR .str)) wx (fun AY=>ad 58 AY (fun I1=>cp (⟨(oa.getD mm.toNat (Ty.bR .json)).kind,⟨(oa.getD mm.toNat (Ty.bR .json)).num.ao,(oa.getD mm.toNat (Ty.bR .json)).num.exp⟩,(oa.getD mm.toNat (Ty.bR .json)).text,(oa.getD mm.toNat (Ty.bR .json)).names,(oa.getD mm.toNat (Ty.bR .json)).items⟩:Json) I1 (fun FJ=>fc XA oa uR (IntKind.i64.wrap (mm+1)) FJ (⟨Dq.kind,⟨Dq.num.ao,Dq.num.exp⟩,Dq.text,Dq.names,Dq.items⟩:Json))))))else (cp (⟨(oa.getD mm.toNat (Ty.bR .json)).kind,⟨(oa.getD mm.toNat (Ty.bR .json)).num.ao,(oa.getD mm.toNat (Ty.bR .json)).num.exp⟩,(oa.getD mm.toNat (Ty.bR .json)).text,(oa.getD mm.toNat (Ty.bR .json)).names,(oa.getD mm.toNat (Ty.bR .json)).items⟩:Json) wx (fun Pd=>fc XA oa uR (IntKind.i64.wrap (mm+1)) Pd (⟨Dq.kind,⟨Dq.num.ao,Dq.num.exp⟩,Dq.text,Dq.names,Dq.items⟩:Json))))))else (e0 XA wx)
def Co (K:Ex→St→Option R) (rc:ja→Option R) (d:ja):Option R:=Cn ad cp aL (fun z0 z1 z2 z3 z4 z5=>rc (z0,z1,z2,z3,z4,z5)) d.1 d.2.1 d.2.2.1 d.2.2.2.1 d.2.2.2.2.1 d.2.2.2.2.2 (sM K)
def qw:Nat→Option (Hint×dE R):=fun i=>match i with
 | 18=>some (nX,(dR kQ kR (A8 bI) lM))
 | _=>none
theorem Jc (K:Ex→St→Option R) (rc:St→Option R) (d:ja):roundOf tt (dy (mP bT aj ad ai cp dL aL)) (qw bI) 1 ((aN (bm Tryz.f83)).getD 0 .skip) nX (qT d) rc K=Co ad cp aL K (fun d=>rc (qT d)) d:=by kernel_rfl
def Cp (x1:Json) (k0:(List Int)→Option R):Option R :=
 let j32:=fun (z12:ag)=>cw (decide ((0:Int)<z12.length)) (aj ((z12.getD 0 0).toNat:Int) (fun FW=>bI (List.length z12+List.length x1.items+Int.natAbs (x1.items.length:Int)+Int.natAbs 0+List.length FW+Json.fu (⟨x1.kind,⟨x1.num.ao,x1.num.exp⟩,x1.text,x1.names,x1.items⟩:Json)+64) z12 x1.items (x1.items.length:Int) 0 FW (⟨x1.kind,⟨x1.num.ao,x1.num.exp⟩,x1.text,x1.names,x1.items⟩:Json) (fun W4 OO=>cw (decide ((1:Int)<W4.length)) (ad ((W4.getD 1 0).toNat:Int) OO (fun XL=>k0 XL))))); bif (x1.kind==1)then (ai ([110,117,108,108]:ag) (fun y2 y3=>k0 y3))else (bif (x1.kind==2)then (ai ([102,97,108,115,101]:ag) (fun y4 y5=>k0 y5))else (bif (x1.kind==3)then (ai ([116,114,117,101]:ag) (fun y6 y7=>k0 y7))else (bif (x1.kind==4)then (bT x1.num (fun y8=>ai y8 (fun y9 od=>k0 od)))else (bif (x1.kind==5)then (dL x1.text (fun ug=>k0 ug))else (bif (x1.kind==7)then (j32 ([123,125]:ag))else (j32 ([91,93]:ag)))))))
theorem Tz:dD (R:=R) tt (mP bT aj ad ai cp dL aL) (qw bI) false Tryz.f83 Ck Cl (Ic (Cp bT aj ad ai dL bI)):=fun x y k=>by kernel_rfl
end
theorem R4:cr (R:=R) Tryz.prog (mP (R:=R) bT aj ad ai cp dL aL) := .c (HW R) <| .f (jv R _ (ju R _ (fA _))) rfl <| .d (iS R) rfl <| .f (Qf R _ (fA _)) rfl <| .f (Ce R _ (Nn R _ (fA _))) rfl <| .n
def bI:sL R
 | 0,_,_,_,_,_,_,_=>none
 | n+1,jf,jj,jr,ur,Eg,FT,e0=>Cn ad cp aL (fun jf jj jr ur Eg FT=>bI n jf jj jr ur Eg FT e0) jf jj jr ur Eg FT e0
def Cq (K:Ex→St→Option R) (n:Nat) (d:ja):Option R:=bI n d.1 d.2.1 d.2.2.1 d.2.2.2.1 d.2.2.2.2.1 d.2.2.2.2.2 (sM K)
theorem LD (other:dE R) (ho:ki tt (dy (mP (R:=R) bT aj ad ai cp dL aL)) (qw (R:=R) bI) 1 ((aN (bm Tryz.f83)).getD 0 .skip) nX other):ki tt (dy (mP (R:=R) bT aj ad ai cp dL aL)) (qw (R:=R) bI) 1 ((aN (bm Tryz.f83)).getD 0 .skip) nX (dR kQ kR (A8 (bI)) other) :=
 ei (A:=Cq) ho (gd qT (Co ad cp aL) (Cq) (fun _ _=>by kernel_rfl) (Jc bT aj ad ai cp dL aL bI) (fun _ _ _=>by kernel_rfl)) Cm Nq (fun _ _=>by kernel_rfl) (fun _ _ _=>by kernel_rfl)
def gX:tM R:=fun x1 k0=>Cp bT aj ad ai dL bI x1 k0
theorem OY (R:Type):∀a∈aN (bm Tryz.f83),ji tt (dy (mP (R:=R) bT aj ad ai cp dL aL)) (qw (R:=R) bI) 1 a:=by
 refine gR 1 (by kernel_rfl) fun i hi => ?_
 match i,hi with
 | 0,_=>exact dH (by kernel_rfl) (LD _ fm)
 | n+1,hi=>omega
theorem Qg (R:Type):jT Tryz.prog 83 (JO (gX (R:=R))):=bj TT mixed (R4 (R:=R)) rfl rfl rfl rfl (OY R) (Tz bT aj ad ai cp dL aL bI)
/-! ### humpyard/json.Print -/
abbrev uW (R:Type):Type:=Json→(ag→Option R)→Option R
abbrev Nr:List cY := [.agg [.int .i64, .int .i64, .int .i64, .str, .sl .str, .sl .json]]
abbrev Ns:List aY := []
def SI (fn:uW R):jU R Nr Ns:=fun x y k=>fn (⟨x.1.1,⟨x.1.2.1,x.1.2.2.1⟩,x.1.2.2.2.1,x.1.2.2.2.2.1,x.1.2.2.2.2.2.1⟩:Json) (fun q0=>k (.str q0) [])
def Nt (fn:uW R):=aC Nr Ns (SI fn)
section
variable (nc:EK R) (gX:tM R)
def U7:List (lC R) := [(84,false,(MH R)),(82,true,(UI nc av)),(83,false,(JO gX av))]
def Hm (x1:Json) (k0:ag→Option R):Option R :=
 nc (⟨x1.kind,⟨x1.num.ao,x1.num.exp⟩,x1.text,x1.names,x1.items⟩:Json) (fun y2=>bif (!y2)then (k0 ([]:ag))else (gX (⟨x1.kind,⟨x1.num.ao,x1.num.exp⟩,x1.text,x1.names,x1.items⟩:Json) (fun y3=>k0 (wm y3))))
theorem json_Print_ok:dD (R:=R) tt (U7 nc gX) nK false Tryz.f35 Nr Ns (SI (Hm nc gX)):=fun x y k=>by kernel_rfl
end
theorem Z0:cr (R:=R) Tryz.prog (U7 (R:=R) nc gX) := .s (Yq) Rt <| .c (XJ R) <| .d (Qg R) rfl <| .n
def dM:uW R:=fun x1 k0=>Hm nc gX x1 k0
theorem Oy (R:Type):jT Tryz.prog 35 (Nt (dM (R:=R))):=bj TT mixed (Z0 (R:=R)) rfl rfl rfl rfl bX (json_Print_ok nc gX)
/-! ### humpyard/seal.Sum -/
abbrev JP (R:Type):Type:=ag→(Int→Option R)→Option R
abbrev TA:List cY := [.leaf (.str)]
abbrev TB:List aY := []
def Xg (fn:JP R):jU R TA TB:=fun x y k=>fn x.1 (fun q0=>k (.int .u32 q0) [])
def Z1 (fn:JP R):=aC TA TB (Xg fn)
abbrev Gb (R:Type):Type:=Nat→Int→Nat→Int→Int→(List Int)→(Int→Option R)→Option R
def Cr:Hint := { live := [3,7,8,9],own := [],rows := [],cells := [],drop := [],out := [2,3] }
abbrev sN:Type:=Int×Nat×Int×Int×(List Int)
def Es:sN→St:=fun d=>⟨U 3 (.int .u32 d.1::U 3 (.row 0 d.2.1 :: .int .i64 d.2.2.1 :: .int .i64 d.2.2.2.1::U 10 ([]))), [.row (.int .u8) d.2.2.2.2]⟩
def Gc (K:Ex→St→Option R) (q0:Int):Option R:=K (.exit 0) ⟨U 3 (.int .u32 q0::U 16 ([])), []⟩
abbrev w3:List cY:=PU 3 (.leaf (.int .u32)::PU 3 (.leaf (.row 0) :: .leaf (.int .i64) :: .leaf (.int .i64)::PU 10 ([])))
abbrev w7:List aY := [.row (.int .u8)]
def Qh (x:cY.cD w3) (y:aY.cD w7):Nat:=(Int.natAbs x.2.2.2.1+Int.natAbs ((t8 x).1)+Int.natAbs ((t8 x).2.1)+List.length y.1+64)
def Z2 (x:cY.cD w3) (y:aY.cD w7):sN:=(x.2.2.2.1,x.2.2.2.2.2.2.2.1,(t8 x).1,(t8 x).2.1,y.1)
def Oz (L:Gb R):Ed R w3 w7:=fun x y K=>L (Qh x y) x.2.2.2.1 x.2.2.2.2.2.2.2.1 ((t8 x).1) ((t8 x).2.1) y.1 (Gc K)
section
variable (dY:Gb R)
def Cs (fc:Int→Nat→Int→Int→(List Int)→Option R) (x2:Int) (x3:Nat) (x4:Int) (x5:Int) (x6:List Int) (e0:Int→Option R):Option R :=
 bif (decide (x5<x4))then (cw (decide ((0:Int)≤x5)&&decide (x5<x3)) (cw (decide (x5.toNat<x6.length)) (fc (IntKind.u32.wrap ((IntKind.u32.wrap ((BitVec.ofInt IntKind.u32.bits x2 ^^^ BitVec.ofInt IntKind.u32.bits (IntKind.u32.wrap (x6.getD x5.toNat (Ty.bR (.int .u8))))).toNat:Int))*16777619)) x3 x4 (IntKind.i64.wrap (x5+1)) x6)))else (e0 x2)
def Qi (K:Ex→St→Option R) (rc:sN→Option R) (d:sN):Option R:=Cs (fun z0 z1 z2 z3 z4=>rc (z0,z1,z2,z3,z4)) d.1 d.2.1 d.2.2.1 d.2.2.2.1 d.2.2.2.2 (Gc K)
def Ie:Nat→Option (Hint×dE R):=fun i=>match i with
 | 3=>some (Cr,(dR w3 w7 (Oz dY) lM))
 | _=>none
theorem U8 (K:Ex→St→Option R) (rc:St→Option R) (d:sN):roundOf tt (dy []) (Ie dY) 0 ((aN (bm Tryz.f67)).getD 0 .skip) Cr (Es d) rc K=Qi K (fun d=>rc (Es d)) d:=by kernel_rfl
def Z3 (x1:ag) (k0:Int→Option R):Option R :=
 dY (Int.natAbs 2166136261+Int.natAbs (x1.length:Int)+Int.natAbs 0+List.length (gS x1)+64) 2166136261 x1.length (x1.length:Int) 0 (gS x1) (fun y7=>k0 y7)
theorem seal_Sum_ok:dD (R:=R) tt [] (Ie dY) false Tryz.f67 TA TB (Xg (Z3 dY)):=fun x y k=>by kernel_rfl
end
def dY:Gb R
 | 0,_,_,_,_,_,_=>none
 | n+1,jf,jj,jr,ur,Eg,e0=>Cs (fun jf jj jr ur Eg=>dY n jf jj jr ur Eg e0) jf jj jr ur Eg e0
def Qj (K:Ex→St→Option R) (n:Nat) (d:sN):Option R:=dY n d.1 d.2.1 d.2.2.1 d.2.2.2.1 d.2.2.2.2 (Gc K)
theorem XW (other:dE R) (ho:ki tt (dy []) (Ie (R:=R) dY) 0 ((aN (bm Tryz.f67)).getD 0 .skip) Cr other):ki tt (dy []) (Ie (R:=R) dY) 0 ((aN (bm Tryz.f67)).getD 0 .skip) Cr (dR w3 w7 (Oz (dY)) other) :=
 ei (A:=Qj) ho (gd Es (Qi) (Qj) (fun _ _=>by kernel_rfl) (U8 dY) (fun _ _ _=>by kernel_rfl)) Qh Z2 (fun _ _=>by kernel_rfl) (fun _ _ _=>by kernel_rfl)
def uG:JP R:=fun x1 k0=>Z3 dY x1 k0
theorem Z4 (R:Type):∀a∈aN (bm Tryz.f67),ji tt (dy []) (Ie (R:=R) dY) 0 a:=by
 refine gR 1 (by kernel_rfl) fun i hi => ?_
 match i,hi with
 | 0,_=>exact dH (by kernel_rfl) (XW _ fm)
 | n+1,hi=>omega
theorem seal_Sum_S_ok (R:Type):jT Tryz.prog 67 (Z1 (uG (R:=R))):=bj TT mixed .n rfl rfl rfl rfl (Z4 R) (seal_Sum_ok dY)
/-! ### humpyard/seal.Seal -/
abbrev nY (R:Type):Type:=ag→(ag→Option R)→Option R
abbrev Qk:List cY := [.leaf (.str)]
abbrev Ql:List aY := []
def U9 (fn:nY R):jU R Qk Ql:=fun x y k=>fn x.1 (fun q0=>k (.str q0) [])
def A9 (fn:nY R):=aC Qk Ql (U9 fn)
section
variable (uG:JP R)
def Xh:List (lC R) := [(67,true,(Z1 uG av))]
def JQ (x1:ag) (k0:ag→Option R):Option R :=
 uG x1 (fun y2=>cw (decide ((0:Int)≤(IntKind.u32.wrap ((BitVec.ofInt IntKind.u32.bits y2 &&& BitVec.ofInt IntKind.u32.bits 15).toNat:Int)))&&decide ((IntKind.u32.wrap ((BitVec.ofInt IntKind.u32.bits y2 &&& BitVec.ofInt IntKind.u32.bits 15).toNat:Int))<(16:Int))) (cw (decide ((0:Int)≤(IntKind.u32.wrap ((BitVec.ofInt IntKind.u32.bits (Int.fdiv y2 (2 ^ (min 4 IntKind.u32.bits))) &&& BitVec.ofInt IntKind.u32.bits 15).toNat:Int)))&&decide ((IntKind.u32.wrap ((BitVec.ofInt IntKind.u32.bits (Int.fdiv y2 (2 ^ (min 4 IntKind.u32.bits))) &&& BitVec.ofInt IntKind.u32.bits 15).toNat:Int))<(16:Int))) (cw (decide ((0:Int)≤(IntKind.u32.wrap ((BitVec.ofInt IntKind.u32.bits (Int.fdiv (Int.fdiv y2 (2 ^ (min 4 IntKind.u32.bits))) (2 ^ (min 4 IntKind.u32.bits))) &&& BitVec.ofInt IntKind.u32.bits 15).toNat:Int)))&&decide ((IntKind.u32.wrap ((BitVec.ofInt IntKind.u32.bits (Int.fdiv (Int.fdiv y2 (2 ^ (min 4 IntKind.u32.bits))) (2 ^ (min 4 IntKind.u32.bits))) &&& BitVec.ofInt IntKind.u32.bits 15).toNat:Int))<(16:Int))) (cw (decide ((0:Int)≤(IntKind.u32.wrap ((BitVec.ofInt IntKind.u32.bits (Int.fdiv (Int.fdiv (Int.fdiv y2 (2 ^ (min 4 IntKind.u32.bits))) (2 ^ (min 4 IntKind.u32.bits))) (2 ^ (min 4 IntKind.u32.bits))) &&& BitVec.ofInt IntKind.u32.bits 15).toNat:Int)))&&decide ((IntKind.u32.wrap ((BitVec.ofInt IntKind.u32.bits (Int.fdiv (Int.fdiv (Int.fdiv y2 (2 ^ (min 4 IntKind.u32.bits))) (2 ^ (min 4 IntKind.u32.bits))) (2 ^ (min 4 IntKind.u32.bits))) &&& BitVec.ofInt IntKind.u32.bits 15).toNat:Int))<(16:Int))) (cw (decide ((0:Int)≤(IntKind.u32.wrap ((BitVec.ofInt IntKind.u32.bits (Int.fdiv (Int.fdiv (Int.fdiv (Int.fdiv y2 (2 ^ (min 4 IntKind.u32.bits))) (2 ^ (min 4 IntKind.u32.bits))) (2 ^ (min 4 IntKind.u32.bits))) (2 ^ (min 4 IntKind.u32.bits))) &&& BitVec.ofInt IntKind.u32.bits 15).toNat:Int)))&&decide ((IntKind.u32.wrap ((BitVec.ofInt IntKind.u32.bits (Int.fdiv (Int.fdiv (Int.fdiv (Int.fdiv y2 (2 ^ (min 4 IntKind.u32.bits))) (2 ^ (min 4 IntKind.u32.bits))) (2 ^ (min 4 IntKind.u32.bits))) (2 ^ (min 4 IntKind.u32.bits))) &&& BitVec.ofInt IntKind.u32.bits 15).toNat:Int))<(16:Int))) (cw (decide ((0:Int)≤(IntKind.u32.wrap ((BitVec.ofInt IntKind.u32.bits (Int.fdiv (Int.fdiv (Int.fdiv (Int.fdiv (Int.fdiv y2 (2 ^ (min 4 IntKind.u32.bits))) (2 ^ (min 4 IntKind.u32.bits))) (2 ^ (min 4 IntKind.u32.bits))) (2 ^ (min 4 IntKind.u32.bits))) (2 ^ (min 4 IntKind.u32.bits))) &&& BitVec.ofInt IntKind.u32.bits 15).toNat:Int)))&&decide ((IntKind.u32.wrap ((BitVec.ofInt IntKind.u32.bits (Int.fdiv (Int.fdiv (Int.fdiv (Int.fdiv (Int.fdiv y2 (2 ^ (min 4 IntKind.u32.bits))) (2 ^ (min 4 IntKind.u32.bits))) (2 ^ (min 4 IntKind.u32.bits))) (2 ^ (min 4 IntKind.u32.bits))) (2 ^ (min 4 IntKind.u32.bits))) &&& BitVec.ofInt IntKind.u32.bits 15).toNat:Int))<(16:Int))) (cw (decide ((0:Int)≤(IntKind.u32.wrap ((BitVec.ofInt IntKind.u32.bits (Int.fdiv (Int.fdiv (Int.fdiv (Int.fdiv (Int.fdiv (Int.fdiv y2 (2 ^ (min 4 IntKind.u32.bits))) (2 ^ (min 4 IntKind.u32.bits))) (2 ^ (min 4 IntKind.u32.bits))) (2 ^ (min 4 IntKind.u32.bits))) (2 ^ (min 4 IntKind.u32.bits))) (2 ^ (min 4 IntKind.u32.bits))) &&& BitVec.ofInt IntKind.u32.bits 15).toNat:Int)))&&decide ((IntKind.u32.wrap ((BitVec.ofInt IntKind.u32.bits (Int.fdiv (Int.fdiv (Int.fdiv (Int.fdiv (Int.fdiv (Int.fdiv y2 (2 ^ (min 4 IntKind.u32.bits))) (2 ^ (min 4 IntKind.u32.bits))) (2 ^ (min 4 IntKind.u32.bits))) (2 ^ (min 4 IntKind.u32.bits))) (2 ^ (min 4 IntKind.u32.bits))) (2 ^ (min 4 IntKind.u32.bits))) &&& BitVec.ofInt IntKind.u32.bits 15).toNat:Int))<(16:Int))) (cw (decide ((0:Int)≤(IntKind.u32.wrap ((BitVec.ofInt IntKind.u32.bits (Int.fdiv (Int.fdiv (Int.fdiv (Int.fdiv (Int.fdiv (Int.fdiv (Int.fdiv y2 (2 ^ (min 4 IntKind.u32.bits))) (2 ^ (min 4 IntKind.u32.bits))) (2 ^ (min 4 IntKind.u32.bits))) (2 ^ (min 4 IntKind.u32.bits))) (2 ^ (min 4 IntKind.u32.bits))) (2 ^ (min 4 IntKind.u32.bits))) (2 ^ (min 4 IntKind.u32.bits))) &&& BitVec.ofInt IntKind.u32.bits 15).toNat:Int)))&&decide ((IntKind.u32.wrap ((BitVec.ofInt IntKind.u32.bits (Int.fdiv (Int.fdiv (Int.fdiv (Int.fdiv (Int.fdiv (Int.fdiv (Int.fdiv y2 (2 ^ (min 4 IntKind.u32.bits))) (2 ^ (min 4 IntKind.u32.bits))) (2 ^ (min 4 IntKind.u32.bits))) (2 ^ (min 4 IntKind.u32.bits))) (2 ^ (min 4 IntKind.u32.bits))) (2 ^ (min 4 IntKind.u32.bits))) (2 ^ (min 4 IntKind.u32.bits))) &&& BitVec.ofInt IntKind.u32.bits 15).toNat:Int))<(16:Int))) (cw (decide (x1.length+1≤9223372036854775807)) (cw (decide ((x1++([35]:ag)).length+(List.map (fun n:Int=>UInt8.ofNat n.toNat) ([((([48,49,50,51,52,53,54,55,56,57,97,98,99,100,101,102]:ag).getD ((IntKind.u32.wrap ((BitVec.ofInt IntKind.u32.bits (Int.fdiv (Int.fdiv (Int.fdiv (Int.fdiv (Int.fdiv (Int.fdiv (Int.fdiv y2 (2 ^ (min 4 IntKind.u32.bits))) (2 ^ (min 4 IntKind.u32.bits))) (2 ^ (min 4 IntKind.u32.bits))) (2 ^ (min 4 IntKind.u32.bits))) (2 ^ (min 4 IntKind.u32.bits))) (2 ^ (min 4 IntKind.u32.bits))) (2 ^ (min 4 IntKind.u32.bits))) &&& BitVec.ofInt IntKind.u32.bits 15).toNat:Int)).toNat) 0).toNat:Int),((([48,49,50,51,52,53,54,55,56,57,97,98,99,100,101,102]:ag).getD ((IntKind.u32.wrap ((BitVec.ofInt IntKind.u32.bits (Int.fdiv (Int.fdiv (Int.fdiv (Int.fdiv (Int.fdiv (Int.fdiv y2 (2 ^ (min 4 IntKind.u32.bits))) (2 ^ (min 4 IntKind.u32.bits))) (2 ^ (min 4 IntKind.u32.bits))) (2 ^ (min 4 IntKind.u32.bits))) (2 ^ (min 4 IntKind.u32.bits))) (2 ^ (min 4 IntKind.u32.bits))) &&& BitVec.ofInt IntKind.u32.bits 15).toNat:Int)).toNat) 0).toNat:Int),((([48,49,50,51,52,53,54,55,56,57,97,98,99,100,101,102]:ag).getD ((IntKind.u32.wrap ((BitVec.ofInt IntKind.u32.bits (Int.fdiv (Int.fdiv (Int.fdiv (Int.fdiv (Int.fdiv y2 (2 ^ (min 4 IntKind.u32.bits))) (2 ^ (min 4 IntKind.u32.bits))) (2 ^ (min 4 IntKind.u32.bits))) (2 ^ (min 4 IntKind.u32.bits))) (2 ^ (min 4 IntKind.u32.bits))) &&& BitVec.ofInt IntKind.u32.bits 15).toNat:Int)).toNat) 0).toNat:Int),((([48,49,50,51,52,53,54,55,56,57,97,98,99,100,101,102]:ag).getD ((IntKind.u32.wrap ((BitVec.ofInt IntKind.u32.bits (Int.fdiv (Int.fdiv (Int.fdiv (Int.fdiv y2 (2 ^ (min 4 IntKind.u32.bits))) (2 ^ (min 4 IntKind.u32.bits))) (2 ^ (min 4 IntKind.u32.bits))) (2 ^ (min 4 IntKind.u32.bits))) &&& BitVec.ofInt IntKind.u32.bits 15).toNat:Int)).toNat) 0).toNat:Int),((([48,49,50,51,52,53,54,55,56,57,97,98,99,100,101,102]:ag).getD ((IntKind.u32.wrap ((BitVec.ofInt IntKind.u32.bits (Int.fdiv (Int.fdiv (Int.fdiv y2 (2 ^ (min 4 IntKind.u32.bits))) (2 ^ (min 4 IntKind.u32.bits))) (2 ^ (min 4 IntKind.u32.bits))) &&& BitVec.ofInt IntKind.u32.bits 15).toNat:Int)).toNat) 0).toNat:Int),((([48,49,50,51,52,53,54,55,56,57,97,98,99,100,101,102]:ag).getD ((IntKind.u32.wrap ((BitVec.ofInt IntKind.u32.bits (Int.fdiv (Int.fdiv y2 (2 ^ (min 4 IntKind.u32.bits))) (2 ^ (min 4 IntKind.u32.bits))) &&& BitVec.ofInt IntKind.u32.bits 15).toNat:Int)).toNat) 0).toNat:Int),((([48,49,50,51,52,53,54,55,56,57,97,98,99,100,101,102]:ag).getD ((IntKind.u32.wrap ((BitVec.ofInt IntKind.u32.bits (Int.fdiv y2 (2 ^ (min 4 IntKind.u32.bits))) &&& BitVec.ofInt IntKind.u32.bits 15).toNat:Int)).toNat) 0).toNat:Int),((([48,49,50,51,52,53,54,55,56,57,97,98,99,100,101,102]:ag).getD ((IntKind.u32.wrap ((BitVec.ofInt IntKind.u32.bits y2 &&& BitVec.ofInt IntKind.u32.bits 15).toNat:Int)).toNat) 0).toNat:Int)]:List Int):ag).length≤9223372036854775807)) (k0 ((x1++([35]:ag))++(List.map (fun n:Int=>UInt8.ofNat n.toNat) ([((([48,49,50,51,52,53,54,55,56,57,97,98,99,100,101,102]:ag).getD ((IntKind.u32.wrap ((BitVec.ofInt IntKind.u32.bits (Int.fdiv (Int.fdiv (Int.fdiv (Int.fdiv (Int.fdiv (Int.fdiv (Int.fdiv y2 (2 ^ (min 4 IntKind.u32.bits))) (2 ^ (min 4 IntKind.u32.bits))) (2 ^ (min 4 IntKind.u32.bits))) (2 ^ (min 4 IntKind.u32.bits))) (2 ^ (min 4 IntKind.u32.bits))) (2 ^ (min 4 IntKind.u32.bits))) (2 ^ (min 4 IntKind.u32.bits))) &&& BitVec.ofInt IntKind.u32.bits 15).toNat:Int)).toNat) 0).toNat:Int),((([48,49,50,51,52,53,54,55,56,57,97,98,99,100,101,102]:ag).getD ((IntKind.u32.wrap ((BitVec.ofInt IntKind.u32.bits (Int.fdiv (Int.fdiv (Int.fdiv (Int.fdiv (Int.fdiv (Int.fdiv y2 (2 ^ (min 4 IntKind.u32.bits))) (2 ^ (min 4 IntKind.u32.bits))) (2 ^ (min 4 IntKind.u32.bits))) (2 ^ (min 4 IntKind.u32.bits))) (2 ^ (min 4 IntKind.u32.bits))) (2 ^ (min 4 IntKind.u32.bits))) &&& BitVec.ofInt IntKind.u32.bits 15).toNat:Int)).toNat) 0).toNat:Int),((([48,49,50,51,52,53,54,55,56,57,97,98,99,100,101,102]:ag).getD ((IntKind.u32.wrap ((BitVec.ofInt IntKind.u32.bits (Int.fdiv (Int.fdiv (Int.fdiv (Int.fdiv (Int.fdiv y2 (2 ^ (min 4 IntKind.u32.bits))) (2 ^ (min 4 IntKind.u32.bits))) (2 ^ (min 4 IntKind.u32.bits))) (2 ^ (min 4 IntKind.u32.bits))) (2 ^ (min 4 IntKind.u32.bits))) &&& BitVec.ofInt IntKind.u32.bits 15).toNat:Int)).toNat) 0).toNat:Int),((([48,49,50,51,52,53,54,55,56,57,97,98,99,100,101,102]:ag).getD ((IntKind.u32.wrap ((BitVec.ofInt IntKind.u32.bits (Int.fdiv (Int.fdiv (Int.fdiv (Int.fdiv y2 (2 ^ (min 4 IntKind.u32.bits))) (2 ^ (min 4 IntKind.u32.bits))) (2 ^ (min 4 IntKind.u32.bits))) (2 ^ (min 4 IntKind.u32.bits))) &&& BitVec.ofInt IntKind.u32.bits 15).toNat:Int)).toNat) 0).toNat:Int),((([48,49,50,51,52,53,54,55,56,57,97,98,99,100,101,102]:ag).getD ((IntKind.u32.wrap ((BitVec.ofInt IntKind.u32.bits (Int.fdiv (Int.fdiv (Int.fdiv y2 (2 ^ (min 4 IntKind.u32.bits))) (2 ^ (min 4 IntKind.u32.bits))) (2 ^ (min 4 IntKind.u32.bits))) &&& BitVec.ofInt IntKind.u32.bits 15).toNat:Int)).toNat) 0).toNat:Int),((([48,49,50,51,52,53,54,55,56,57,97,98,99,100,101,102]:ag).getD ((IntKind.u32.wrap ((BitVec.ofInt IntKind.u32.bits (Int.fdiv (Int.fdiv y2 (2 ^ (min 4 IntKind.u32.bits))) (2 ^ (min 4 IntKind.u32.bits))) &&& BitVec.ofInt IntKind.u32.bits 15).toNat:Int)).toNat) 0).toNat:Int),((([48,49,50,51,52,53,54,55,56,57,97,98,99,100,101,102]:ag).getD ((IntKind.u32.wrap ((BitVec.ofInt IntKind.u32.bits (Int.fdiv y2 (2 ^ (min 4 IntKind.u32.bits))) &&& BitVec.ofInt IntKind.u32.bits 15).toNat:Int)).toNat) 0).toNat:Int),((([48,49,50,51,52,53,54,55,56,57,97,98,99,100,101,102]:ag).getD ((IntKind.u32.wrap ((BitVec.ofInt IntKind.u32.bits y2 &&& BitVec.ofInt IntKind.u32.bits 15).toNat:Int)).toNat) 0).toNat:Int)]:List Int):ag)))))))))))))
theorem seal_Seal_ok:dD (R:=R) tt (Xh uG) nK false Tryz.f28 Qk Ql (U9 (JQ uG)):=fun x y k=>by kernel_rfl
end
theorem seal_Seal_EOk:cr (R:=R) Tryz.prog (Xh (R:=R) uG) := .c (seal_Sum_S_ok R) <| .n
def bQ:nY R:=fun x1 k0=>JQ uG x1 k0
theorem w8 (R:Type):jT Tryz.prog 28 (A9 (bQ (R:=R))):=bj TT mixed (seal_Seal_EOk (R:=R)) rfl rfl rfl rfl bX (seal_Seal_ok uG)
/-! ### humpyard/seal.Open -/
abbrev nZ (R:Type):Type:=ag→(ag→Int→Option R)→Option R
abbrev Qm:List cY := [.leaf (.str)]
abbrev Qn:List aY := []
def Va (fn:nZ R):jU R Qm Qn:=fun x y k=>fn x.1 (fun q0 q1=>k (.tuple [.str q0, .int .i64 q1]) [])
def Qo (fn:nZ R):=aC Qm Qn (Va fn)
section
variable (bQ:nY R)
def Xi:List (lC R) := [(28,true,(A9 bQ av)),(78,true,(lastI_S R))]
def JR (x1:ag) (k0:ag→Int→Option R):Option R :=
 cw (decide (x1.length≤281474976710656)) (bif (decide ((E3 x1 35)<(0:Int)))then (k0 ([]:ag) 60)else (cw (decide ((0:Int)≤(E3 x1 35))&&decide ((E3 x1 35)≤x1.length)) (cw (decide ((0:Int)≤(E3 x1 35))) (bQ ((x1.drop 0).take ((E3 x1 35).toNat - 0)) (fun y2=>bif (!(y2==x1))then (k0 ([]:ag) 60)else (cw (decide ((0:Int)≤(E3 x1 35))&&decide ((E3 x1 35)≤x1.length)) (cw (decide ((0:Int)≤(E3 x1 35))) (k0 ((x1.drop 0).take ((E3 x1 35).toNat - 0)) 0))))))))
theorem seal_Open_ok:dD (R:=R) tt (Xi bQ) nK false Tryz.f31 Qm Qn (Va (JR bQ)):=fun x y k=>by kernel_rfl
end
theorem seal_Open_EOk:cr (R:=R) Tryz.prog (Xi (R:=R) bQ) := .c (w8 R) <| .p (lastI_ok) <| .n
def db:nZ R:=fun x1 k0=>JR bQ x1 k0
theorem Qp (R:Type):jT Tryz.prog 31 (Qo (db (R:=R))):=bj TT mixed (seal_Open_EOk (R:=R)) rfl rfl rfl rfl bX (seal_Open_ok bQ)
end Go.Proofs.YtidfokedcnhahaaGreatDoor
/-
 Functions of the program as pure Lean functions, and the ties; printed by wip/tools/emit.py.
-/
set_option maxRecDepth 100000
namespace Go.Proofs.YtidfokedcnhahaaGreatDoor
open Go Go.aq
variable {R:Type}
end Go.Proofs.YtidfokedcnhahaaGreatDoor
/-
 Functions of the program as pure Lean functions, and the ties; printed by wip/tools/emit.py.
-/
set_option maxRecDepth 100000
namespace Go.Proofs.YtidfokedcnhahaaGreatDoor
open Go Go.aq
variable {R:Type}
end Go.Proofs.YtidfokedcnhahaaGreatDoor
/-
 Functions of the program as pure Lean functions, and the ties; printed by wip/tools/emit.py.
-/
set_option maxRecDepth 100000
namespace Go.Proofs.YtidfokedcnhahaaGreatDoor
open Go Go.aq
variable {R:Type}
/-! ### humpyard/humpyardlaw07.Fit -/
abbrev Ct (R:Type):Type:=ag→(ag→Option R)→Option R
abbrev Qq:List cY := [.leaf (.str)]
abbrev Qr:List aY := []
def Vb (fn:Ct R):jU R Qq Qr:=fun x y k=>fn x.1 (fun q0=>k (.str q0) [])
def Qs (fn:Ct R):=aC Qq Qr (Vb fn)
abbrev Et (R:Type):Type:=Nat→Nat→Int→(List Int)→(Nat→(List Int)→Option R)→Option R
def Af:Hint := { live := [3,4],own := [],rows := [],cells := [],drop := [],out := [2,3] }
abbrev pN:Type:=Nat×Int×(List Int)
def Cu:pN→St:=fun d=>⟨U 3 (.row 0 d.1 :: .int .i64 d.2.1::U 25 ([])), [.row (.int .u8) d.2.2]⟩
def Eu (K:Ex→St→Option R) (q0:Nat) (q1:List Int):Option R:=K (.exit 0) ⟨U 3 (.row 0 q0::U 26 ([])), [.row (.int .u8) q1]⟩
abbrev uH:List cY:=PU 3 (.leaf (.row 0) :: .leaf (.int .i64)::PU 25 ([]))
abbrev uI:List aY := [.row (.int .u8)]
def OA (x:cY.cD uH) (y:aY.cD uI):Nat:=(Int.natAbs x.2.2.2.2.1+List.length y.1+64)
def XX (x:cY.cD uH) (y:aY.cD uI):pN:=(x.2.2.2.1,x.2.2.2.2.1,y.1)
def LF (L:Et R):Ed R uH uI:=fun x y K=>L (OA x y) x.2.2.2.1 x.2.2.2.2.1 y.1 (Eu K)
section
variable (dP:Et R)
def Ag (fc:Nat→Int→(List Int)→Option R) (x2:Nat) (x3:Int) (x4:List Int) (e0:Nat→(List Int)→Option R):Option R :=
 bif (decide (x3<(x2:Int)))then (cw (decide ((0:Int)≤x3)&&decide (x3<x2)) (cw (decide (x3.toNat<x4.length)) (cw (decide ((0:Int)≤(Int.tmod (IntKind.i64.wrap (x4.getD x3.toNat (Ty.bR (.int .u8)))) 20))&&decide ((Int.tmod (IntKind.i64.wrap (x4.getD x3.toNat (Ty.bR (.int .u8)))) 20)<(20:Int))) (cw (decide ((0:Int)≤x3)&&decide (x3<x2)) (cw (decide (x3.toNat<x4.length)) (fc x2 (IntKind.i64.wrap (x3+1)) (x4.set x3.toNat ((([97,98,99,120,121,122,65,66,67,88,89,90,48,49,56,57,95,46,58,45]:ag).getD ((Int.tmod (IntKind.i64.wrap (x4.getD x3.toNat (Ty.bR (.int .u8)))) 20).toNat) 0).toNat:Int))))))))else (e0 x2 x4)
def OB (K:Ex→St→Option R) (rc:pN→Option R) (d:pN):Option R:=Ag (fun z0 z1 z2=>rc (z0,z1,z2)) d.1 d.2.1 d.2.2 (Eu K)
def Fk:Nat→Option (Hint×dE R):=fun i=>match i with
 | 3=>some (Af,(dR uH uI (LF dP) lM))
 | _=>none
theorem TC (K:Ex→St→Option R) (rc:St→Option R) (d:pN):roundOf tt (dy []) (Fk dP) 0 ((aN (bm Tryz.f33)).getD 0 .skip) Af (Cu d) rc K=OB K (fun d=>rc (Cu d)) d:=by kernel_rfl
def Qt (x1:ag) (k0:ag→Option R):Option R :=
 cw (decide ((0:Int)≤(min (x1.length:Int) 15))&&decide ((min (x1.length:Int) 15)≤x1.length)) (cw (decide ((0:Int)≤(min (x1.length:Int) 15))) (cw (decide (1+((x1.drop 0).take ((min (x1.length:Int) 15).toNat - 0)).length≤9223372036854775807)) (dP (Int.natAbs 1+List.length (gS (([110]:ag)++((x1.drop 0).take ((min (x1.length:Int) 15).toNat - 0))))+64) ((([110]:ag)++((x1.drop 0).take ((min (x1.length:Int) 15).toNat - 0))).length) 1 (gS (([110]:ag)++((x1.drop 0).take ((min (x1.length:Int) 15).toNat - 0)))) (fun y5 y6=>k0 (List.map (fun n:Int=>UInt8.ofNat n.toNat) y6:ag)))))
theorem law07_Fit_ok:dD (R:=R) tt [] (Fk dP) false Tryz.f33 Qq Qr (Vb (Qt dP)):=fun x y k=>by kernel_rfl
end
def dP:Et R
 | 0,_,_,_,_=>none
 | n+1,jf,jj,jr,e0=>Ag (fun jf jj jr=>dP n jf jj jr e0) jf jj jr e0
def OC (K:Ex→St→Option R) (n:Nat) (d:pN):Option R:=dP n d.1 d.2.1 d.2.2 (Eu K)
theorem Wl (other:dE R) (ho:ki tt (dy []) (Fk (R:=R) dP) 0 ((aN (bm Tryz.f33)).getD 0 .skip) Af other):ki tt (dy []) (Fk (R:=R) dP) 0 ((aN (bm Tryz.f33)).getD 0 .skip) Af (dR uH uI (LF (dP)) other) :=
 ei (A:=OC) ho (gd Cu (OB) (OC) (fun _ _=>by kernel_rfl) (TC dP) (fun _ _ _=>by kernel_rfl)) OA XX (fun _ _=>by kernel_rfl) (fun _ _ _=>by kernel_rfl)
def gb:Ct R:=fun x1 k0=>Qt dP x1 k0
theorem XY (R:Type):∀a∈aN (bm Tryz.f33),ji tt (dy []) (Fk (R:=R) dP) 0 a:=by
 refine gR 1 (by kernel_rfl) fun i hi => ?_
 match i,hi with
 | 0,_=>exact dH (by kernel_rfl) (Wl _ fm)
 | n+1,hi=>omega
theorem Qu (R:Type):jT Tryz.prog 33 (Qs (gb (R:=R))):=bj TT mixed .n rfl rfl rfl rfl (XY R) (law07_Fit_ok dP)
end Go.Proofs.YtidfokedcnhahaaGreatDoor
/-
 Functions of the program as pure Lean functions, and the ties; printed by wip/tools/emit.py.
-/
set_option maxRecDepth 100000
namespace Go.Proofs.YtidfokedcnhahaaGreatDoor
open Go Go.aq
variable {R:Type}
end Go.Proofs.YtidfokedcnhahaaGreatDoor
/-
 Functions of the program as pure Lean functions, and the ties; printed by wip/tools/emit.py.
-/
set_option maxRecDepth 100000
namespace Go.Proofs.YtidfokedcnhahaaGreatDoor
open Go Go.aq
variable {R:Type}
end Go.Proofs.YtidfokedcnhahaaGreatDoor
/-
 Functions of the program as pure Lean functions, and the ties; printed by wip/tools/emit.py.
-/
set_option maxRecDepth 100000
namespace Go.Proofs.YtidfokedcnhahaaGreatDoor
open Go Go.aq
variable {R:Type}
end Go.Proofs.YtidfokedcnhahaaGreatDoor
/-
 Functions of the program as pure Lean functions, and the ties; printed by wip/tools/emit.py.
-/
set_option maxRecDepth 100000
namespace Go.Proofs.YtidfokedcnhahaaGreatDoor
open Go Go.aq
variable {R:Type}
end Go.Proofs.YtidfokedcnhahaaGreatDoor
/-
 Functions of the program as pure Lean functions, and the ties; printed by wip/tools/emit.py.
-/
set_option maxRecDepth 100000
namespace Go.Proofs.YtidfokedcnhahaaGreatDoor
open Go Go.aq
variable {R:Type}
end Go.Proofs.YtidfokedcnhahaaGreatDoor
/-
 Functions of the program as pure Lean functions, and the ties; printed by wip/tools/emit.py.
-/
set_option maxRecDepth 100000
namespace Go.Proofs.YtidfokedcnhahaaGreatDoor
open Go Go.aq
variable {R:Type}
end Go.Proofs.YtidfokedcnhahaaGreatDoor
/-
 Functions of the program as pure Lean functions, and the ties; printed by wip/tools/emit.py.
-/
set_option maxRecDepth 100000
namespace Go.Proofs.YtidfokedcnhahaaGreatDoor
open Go Go.aq
variable {R:Type}
/-! ### (*humpyard/humpyardref04.Parser).is -/
abbrev jY (R:Type):Type:=ag→(List Token)→Int→Int→(Bool→(List Token)→Int→Int→Option R)→Option R
abbrev tN:List cY := [.leaf (.ptr 0 0), .leaf (.str)]
abbrev tO:List aY := [.cells [.sl .token, .int .i64, .int .i64]]
def Ba (fn:jY R):jU R tN tO:=fun x y k=>fn x.2.1 y.1.1 y.1.2.1 y.1.2.2.1 (fun q0 q1 q2 q3=>k (.bool q0) [.cells [.sl .token q1 .no, .int .i64 q2, .int .i64 q3]])
def tP (fn:jY R):=aC tN tO (Ba fn)
section
def Cv (x1:ag) (x2:List Token) (x3:Int) (x4:Int) (k0:Bool→(List Token)→Int→Int→Option R):Option R :=
 bif (x4==0)then (cw (decide ((0:Int)≤x3)&&decide (x3<x2.length)) (bif ((x2.getD x3.toNat (Ty.bR .token)).kind==1)then (cw (decide ((0:Int)≤x3)&&decide (x3<x2.length)) (bif ((x2.getD x3.toNat (Ty.bR .token)).text==x1)then (k0 ((x2.getD x3.toNat (Ty.bR .token)).text==x1) x2 (IntKind.i64.wrap (x3+1)) x4)else (k0 ((x2.getD x3.toNat (Ty.bR .token)).text==x1) x2 x3 x4)))else (k0 false x2 x3 x4)))else (k0 false x2 x3 x4)
theorem LG:dD (R:=R) (tt.mode [.json]) [] nK false Tryz.f152 tN tO (Ba Cv):=fun x y k=>by kernel_rfl
end
def aH:jY R:=fun x1 x2 x3 x4 k0=>Cv x1 x2 x3 x4 k0
theorem xQ (R:Type):jT Tryz.prog 152 (tP (aH (R:=R))):=bj (TT.mode [.json]) mixed .n rfl rfl rfl rfl bX (LG)
/-! ### (*humpyard/humpyardref04.Parser).must -/
abbrev lH (R:Type):Type:=ag→(List Token)→Int→Int→((List Token)→Int→Int→Option R)→Option R
abbrev qU:List cY := [.leaf (.ptr 0 0), .leaf (.str)]
abbrev qV:List aY := [.cells [.sl .token, .int .i64, .int .i64]]
def xR (fn:lH R):jU R qU qV:=fun x y k=>fn x.2.1 y.1.1 y.1.2.1 y.1.2.2.1 (fun q0 q1 q2=>k (.tuple []) [.cells [.sl .token q0 .no, .int .i64 q1, .int .i64 q2]])
def zT (fn:lH R):=aC qU qV (xR fn)
section
variable (aH:jY R)
def zU:List (lC R) := [(152,false,(tP aH av))]
def zV (x1:ag) (x2:List Token) (x3:Int) (x4:Int) (k0:(List Token)→Int→Int→Option R):Option R :=
 aH x1 x2 x3 x4 (fun y5 y6 y7 y8=>bif (!y5)then (bif (y8==0)then (k0 y6 y7 40)else (k0 y6 y7 y8))else (k0 y6 y7 y8))
theorem Jd:dD (R:=R) (tt.mode [.json]) (zU aH) nK false Tryz.f153 qU qV (xR (zV aH)):=fun x y k=>by kernel_rfl
end
theorem Ig:cr (R:=R) Tryz.prog (zU (R:=R) aH) := .d (xQ R) rfl <| .n
def aZ:lH R:=fun x1 x2 x3 x4 k0=>zV aH x1 x2 x3 x4 k0
theorem Hn (R:Type):jT Tryz.prog 153 (zT (aZ (R:=R))):=bj (TT.mode [.json]) mixed (Ig (R:=R)) rfl rfl rfl rfl bX (Jd aH)
end Go.Proofs.YtidfokedcnhahaaGreatDoor
/-
 Functions of the program as pure Lean functions, and the ties; printed by wip/tools/emit.py.
-/
set_option maxRecDepth 100000
namespace Go.Proofs.YtidfokedcnhahaaGreatDoor
open Go Go.aq
variable {R:Type}
/-! ### (*humpyard/humpyardref04.Parser).value -/
abbrev bh (R:Type):Type:=Int→(List Token)→Int→Int→(Json→(List Token)→Int→Int→Option R)→Option R
abbrev dU:List cY := [.leaf (.ptr 0 0), .leaf (.int .i64)]
abbrev dV:List aY := [.cells [.sl .token, .int .i64, .int .i64]]
def cJ (fn:bh R):jU R dU dV:=fun x y k=>fn x.2.1 y.1.1 y.1.2.1 y.1.2.2.1 (fun q0 q1 q2 q3=>k (.agg [.int .i64 q0.kind, .int .i64 q0.num.ao, .int .i64 q0.num.exp, .str q0.text, .sl .str q0.names .no, .sl .json q0.items .no]) [.cells [.sl .token q1 .no, .int .i64 q2, .int .i64 q3]])
def Je (fn:bh R):=aC dU dV (cJ fn)
abbrev lp (R:Type):Type:=Nat→Int→Bool→(List Token)→Int→Int→Int→Int→Int→ag→Int→Int→Int→ag→Nat→(List Json)→((List Token)→Int→Int→Int→Int→Int→ag→Int→Int→Int→ag→Nat→(List Json)→Option R)→Option R
abbrev lq (R:Type):Type:=Nat→Int→Bool→(List Token)→Int→Int→Int→Int→Int→ag→Int→Int→Int→ag→(List ag)→Nat→(List Json)→((List Token)→Int→Int→Int→Int→Int→ag→Int→Int→Int→ag→(List ag)→Nat→(List Json)→Option R)→Option R
def jb:Hint := { live := [0,1,4,7,8],own := [],rows := [],cells := [(2,5, .json,true)],drop := [],out := [4,7] }
abbrev fe:Type:=Int×Bool×(List Token)×Int×Int×Int×Int×Int×ag×Int×Int×Int×ag×Nat×(List Json)
def kS:fe→St:=fun d=>⟨.ptr 0 0 :: .int .i64 d.1::U 2 (.ptr 1 0::U 2 (.ptr 2 0 :: .bool d.2.1::U 184 ([]))), [.cells [.sl .token d.2.2.1 .no, .int .i64 d.2.2.2.1, .int .i64 d.2.2.2.2.1], .cells [.int .i64 d.2.2.2.2.2.1, .int .i64 d.2.2.2.2.2.2.1, .int .i64 d.2.2.2.2.2.2.2.1, .str d.2.2.2.2.2.2.2.2.1, .cx, .cx], .cells [.int .i64 d.2.2.2.2.2.2.2.2.2.1, .int .i64 d.2.2.2.2.2.2.2.2.2.2.1, .int .i64 d.2.2.2.2.2.2.2.2.2.2.2.1, .str d.2.2.2.2.2.2.2.2.2.2.2.2.1, .cx, .row 3 d.2.2.2.2.2.2.2.2.2.2.2.2.2.1], .row .json d.2.2.2.2.2.2.2.2.2.2.2.2.2.2]⟩
def lr (K:Ex→St→Option R) (q0:List Token) (q1:Int) (q2:Int) (q3:Int) (q4:Int) (q5:Int) (q6:ag) (q7:Int) (q8:Int) (q9:Int) (q10:ag) (q11:Nat) (q12:List Json):Option R:=K (.exit 1) ⟨U 4 (.ptr 1 0::U 2 (.ptr 2 0::U 185 ([]))), [.cells [.sl .token q0 .no, .int .i64 q1, .int .i64 q2], .cells [.int .i64 q3, .int .i64 q4, .int .i64 q5, .str q6, .cx, .cx], .cells [.int .i64 q7, .int .i64 q8, .int .i64 q9, .str q10, .cx, .row 3 q11], .row .json q12]⟩
abbrev gw:List cY := .leaf (.ptr 0 0) :: .leaf (.int .i64)::PU 2 (.leaf (.ptr 1 0)::PU 2 (.leaf (.ptr 2 0) :: .leaf (.bool)::PU 184 ([])))
abbrev gC:List aY := [.cells [.sl .token, .int .i64, .int .i64], .cells [.int .i64, .int .i64, .int .i64, .str, .cx, .cx], .cells [.int .i64, .int .i64, .int .i64, .str, .cx, .row 3], .row .json]
def sO (x:cY.cD gw) (y:aY.cD gC):Nat:=(Int.natAbs x.2.1+List.length y.1.1+Int.natAbs y.1.2.1+Int.natAbs y.1.2.2.1+Int.natAbs y.2.1.1+Int.natAbs y.2.1.2.1+Int.natAbs y.2.1.2.2.1+List.length y.2.1.2.2.2.1+Int.natAbs y.2.2.1.1+Int.natAbs y.2.2.1.2.1+Int.natAbs y.2.2.1.2.2.1+List.length y.2.2.1.2.2.2.1+List.length y.2.2.2.1+64)
def Ev (x:cY.cD gw) (y:aY.cD gC):fe:=(x.2.1,(t8 x).1,y.1.1,y.1.2.1,y.1.2.2.1,y.2.1.1,y.2.1.2.1,y.2.1.2.2.1,y.2.1.2.2.2.1,y.2.2.1.1,y.2.2.1.2.1,y.2.2.1.2.2.1,y.2.2.1.2.2.2.1,y.2.2.1.2.2.2.2.2.1,y.2.2.2.1)
def rQ (L:lp R):Ed R gw gC:=fun x y K=>L (sO x y) x.2.1 ((t8 x).1) y.1.1 y.1.2.1 y.1.2.2.1 y.2.1.1 y.2.1.2.1 y.2.1.2.2.1 y.2.1.2.2.2.1 y.2.2.1.1 y.2.2.1.2.1 y.2.2.1.2.2.1 y.2.2.1.2.2.2.1 y.2.2.1.2.2.2.2.2.1 y.2.2.2.1 (lr K)
def jc:Hint := { live := [0,1,4,10,11],own := [],rows := [],cells := [(2,4, .str,false),(2,5, .json,true)],drop := [],out := [4,10] }
abbrev ff:Type:=Int×Bool×(List Token)×Int×Int×Int×Int×Int×ag×Int×Int×Int×ag×(List ag)×Nat×(List Json)
def kT:ff→St:=fun d=>⟨.ptr 0 0 :: .int .i64 d.1::U 2 (.ptr 1 0::U 5 (.ptr 2 0 :: .bool d.2.1::U 181 ([]))), [.cells [.sl .token d.2.2.1 .no, .int .i64 d.2.2.2.1, .int .i64 d.2.2.2.2.1], .cells [.int .i64 d.2.2.2.2.2.1, .int .i64 d.2.2.2.2.2.2.1, .int .i64 d.2.2.2.2.2.2.2.1, .str d.2.2.2.2.2.2.2.2.1, .cx, .cx], .cells [.int .i64 d.2.2.2.2.2.2.2.2.2.1, .int .i64 d.2.2.2.2.2.2.2.2.2.2.1, .int .i64 d.2.2.2.2.2.2.2.2.2.2.2.1, .str d.2.2.2.2.2.2.2.2.2.2.2.2.1, .sl .str d.2.2.2.2.2.2.2.2.2.2.2.2.2.1 (.own 3), .row 4 d.2.2.2.2.2.2.2.2.2.2.2.2.2.2.1], .tok, .row .json d.2.2.2.2.2.2.2.2.2.2.2.2.2.2.2]⟩
def lu (K:Ex→St→Option R) (q0:List Token) (q1:Int) (q2:Int) (q3:Int) (q4:Int) (q5:Int) (q6:ag) (q7:Int) (q8:Int) (q9:Int) (q10:ag) (q11:List ag) (q12:Nat) (q13:List Json):Option R:=K (.exit 3) ⟨U 4 (.ptr 1 0::U 5 (.ptr 2 0::U 182 ([]))), [.cells [.sl .token q0 .no, .int .i64 q1, .int .i64 q2], .cells [.int .i64 q3, .int .i64 q4, .int .i64 q5, .str q6, .cx, .cx], .cells [.int .i64 q7, .int .i64 q8, .int .i64 q9, .str q10, .sl .str q11 (.own 3), .row 4 q12], .tok, .row .json q13]⟩
abbrev gD:List cY := .leaf (.ptr 0 0) :: .leaf (.int .i64)::PU 2 (.leaf (.ptr 1 0)::PU 5 (.leaf (.ptr 2 0) :: .leaf (.bool)::PU 181 ([])))
abbrev gE:List aY := [.cells [.sl .token, .int .i64, .int .i64], .cells [.int .i64, .int .i64, .int .i64, .str, .cx, .cx], .cells [.int .i64, .int .i64, .int .i64, .str, .Yn .str 3, .row 4], .tok, .row .json]
def sP (x:cY.cD gD) (y:aY.cD gE):Nat:=(Int.natAbs x.2.1+List.length y.1.1+Int.natAbs y.1.2.1+Int.natAbs y.1.2.2.1+Int.natAbs y.2.1.1+Int.natAbs y.2.1.2.1+Int.natAbs y.2.1.2.2.1+List.length y.2.1.2.2.2.1+Int.natAbs y.2.2.1.1+Int.natAbs y.2.2.1.2.1+Int.natAbs y.2.2.1.2.2.1+List.length y.2.2.1.2.2.2.1+List.length y.2.2.1.2.2.2.2.1+List.length y.2.2.2.2.1+64)
def Ew (x:cY.cD gD) (y:aY.cD gE):ff:=(x.2.1,(t8 x).2.2.2.1,y.1.1,y.1.2.1,y.1.2.2.1,y.2.1.1,y.2.1.2.1,y.2.1.2.2.1,y.2.1.2.2.2.1,y.2.2.1.1,y.2.2.1.2.1,y.2.2.1.2.2.1,y.2.2.1.2.2.2.1,y.2.2.1.2.2.2.2.1,y.2.2.1.2.2.2.2.2.1,y.2.2.2.2.1)
def rR (L:lq R):Ed R gD gE:=fun x y K=>L (sP x y) x.2.1 ((t8 x).2.2.2.1) y.1.1 y.1.2.1 y.1.2.2.1 y.2.1.1 y.2.1.2.1 y.2.1.2.2.1 y.2.1.2.2.2.1 y.2.2.1.1 y.2.2.1.2.1 y.2.2.1.2.2.1 y.2.2.1.2.2.2.1 y.2.2.1.2.2.2.2.1 y.2.2.1.2.2.2.2.2.1 y.2.2.2.2.1 (lu K)
section
variable (aH:jY R) (aZ:lH R) (af:bh R) (iw:Hl R) (aV:lp R) (aW:lq R)
def dW:List (lC R) := [(152,false,(tP aH av)),(153,false,(zT aZ av)),(114,false,(aC dU dV (cJ af) av)),(154,true,(Xe iw av))]
def sQ (fc:Int→Bool→(List Token)→Int→Int→Int→Int→Int→ag→Int→Int→Int→ag→Nat→(List Json)→Option R) (x11:Int) (x12:Bool) (VZ:List Token) (XA:Int) (oa:Int) (uR:Int) (mm:Int) (wx:Int) (Dq:ag) (Gr:Int) (Sx:Int) (x22:Int) (x23:ag) (x24:Nat) (x25:List Json) (e0:(List Token)→Int→Int→Int→Int→Int→ag→Int→Int→Int→ag→Nat→(List Json)→Option R):Option R :=
 bif (!x12)then (bif (oa==0)then (af (IntKind.i64.wrap (x11+1)) VZ XA oa (fun FJ Pd W4 OO=>cw (decide ((x25.length+1)*88≤140737488355328)) (aH ([44]:ag) Pd W4 OO (fun XL HY y33 y34=>bif (!XL)then (aZ ([93]:ag) HY y33 y34 (fun y35 y36 y37=>fc x11 true y35 y36 y37 uR mm wx Dq Gr Sx x22 x23 (x25.length+1) (x25++([(⟨FJ.kind,⟨FJ.num.ao,FJ.num.exp⟩,FJ.text,FJ.names,FJ.items⟩:Json)]:List Json))))else (fc x11 x12 HY y33 y34 uR mm wx Dq Gr Sx x22 x23 (x25.length+1) (x25++([(⟨FJ.kind,⟨FJ.num.ao,FJ.num.exp⟩,FJ.text,FJ.names,FJ.items⟩:Json)]:List Json)))))))else (e0 VZ XA oa uR mm wx Dq Gr Sx x22 x23 x24 x25))else (e0 VZ XA oa uR mm wx Dq Gr Sx x22 x23 x24 x25)
def sR (K:Ex→St→Option R) (rc:fe→Option R) (d:fe):Option R:=sQ aH aZ af (fun z0 z1 z2 z3 z4 z5 z6 z7 z8 z9 XB yb z12 z13 z14=>rc (z0,z1,z2,z3,z4,z5,z6,z7,z8,z9,XB,yb,z12,z13,z14)) d.1 d.2.1 d.2.2.1 d.2.2.2.1 d.2.2.2.2.1 d.2.2.2.2.2.1 d.2.2.2.2.2.2.1 d.2.2.2.2.2.2.2.1 d.2.2.2.2.2.2.2.2.1 d.2.2.2.2.2.2.2.2.2.1 d.2.2.2.2.2.2.2.2.2.2.1 d.2.2.2.2.2.2.2.2.2.2.2.1 d.2.2.2.2.2.2.2.2.2.2.2.2.1 d.2.2.2.2.2.2.2.2.2.2.2.2.2.1 d.2.2.2.2.2.2.2.2.2.2.2.2.2.2 (lr K)
def sS (fc:Int→Bool→(List Token)→Int→Int→Int→Int→Int→ag→Int→Int→Int→ag→(List ag)→Nat→(List Json)→Option R) (x55:Int) (x56:Bool) (x57:List Token) (x58:Int) (x59:Int) (x60:Int) (x61:Int) (x62:Int) (x63:ag) (x64:Int) (x65:Int) (x66:Int) (x67:ag) (x68:List ag) (x69:Nat) (x70:List Json) (e0:(List Token)→Int→Int→Int→Int→Int→ag→Int→Int→Int→ag→(List ag)→Nat→(List Json)→Option R):Option R :=
 bif (!x56)then (bif (x59==0)then (cw (decide ((0:Int)≤x58)&&decide (x58<x57.length)) (bif ((x57.getD x58.toNat (Ty.bR .token)).kind != 2)then (e0 x57 x58 40 x60 x61 x62 x63 x64 x65 x66 x67 x68 x69 x70)else (iw x68 ((x57.getD x58.toNat (Ty.bR .token)).text) (fun y72=>bif y72 then (e0 x57 x58 42 x60 x61 x62 x63 x64 x65 x66 x67 x68 x69 x70)else (aZ ([58]:ag) x57 (IntKind.i64.wrap (x58+1)) x59 (fun y73 y74 y75=>cw (decide ((x68.length+1)*16≤140737488355328)) (af (IntKind.i64.wrap (x55+1)) y73 y74 y75 (fun y76 y77 y78 y79=>cw (decide ((x70.length+1)*88≤140737488355328)) (aH ([44]:ag) y77 y78 y79 (fun y80 y81 y82 y83=>bif (!y80)then (aZ ([125]:ag) y81 y82 y83 (fun y84 y85 y86=>fc x55 true y84 y85 y86 x60 x61 x62 x63 x64 x65 x66 x67 (x68++([(x57.getD x58.toNat (Ty.bR .token)).text]:List ag)) (x70.length+1) (x70++([(⟨y76.kind,⟨y76.num.ao,y76.num.exp⟩,y76.text,y76.names,y76.items⟩:Json)]:List Json))))else (fc x55 x56 y81 y82 y83 x60 x61 x62 x63 x64 x65 x66 x67 (x68++([(x57.getD x58.toNat (Ty.bR .token)).text]:List ag)) (x70.length+1) (x70++([(⟨y76.kind,⟨y76.num.ao,y76.num.exp⟩,y76.text,y76.names,y76.items⟩:Json)]:List Json)))))))))))))else (e0 x57 x58 x59 x60 x61 x62 x63 x64 x65 x66 x67 x68 x69 x70))else (e0 x57 x58 x59 x60 x61 x62 x63 x64 x65 x66 x67 x68 x69 x70)
def sT (K:Ex→St→Option R) (rc:ff→Option R) (d:ff):Option R:=sS aH aZ af iw (fun z0 z1 z2 z3 z4 z5 z6 z7 z8 z9 XB yb z12 z13 z14 z15=>rc (z0,z1,z2,z3,z4,z5,z6,z7,z8,z9,XB,yb,z12,z13,z14,z15)) d.1 d.2.1 d.2.2.1 d.2.2.2.1 d.2.2.2.2.1 d.2.2.2.2.2.1 d.2.2.2.2.2.2.1 d.2.2.2.2.2.2.2.1 d.2.2.2.2.2.2.2.2.1 d.2.2.2.2.2.2.2.2.2.1 d.2.2.2.2.2.2.2.2.2.2.1 d.2.2.2.2.2.2.2.2.2.2.2.1 d.2.2.2.2.2.2.2.2.2.2.2.2.1 d.2.2.2.2.2.2.2.2.2.2.2.2.2.1 d.2.2.2.2.2.2.2.2.2.2.2.2.2.2.1 d.2.2.2.2.2.2.2.2.2.2.2.2.2.2.2 (lu K)
def eR:Nat→Option (Hint×dE R):=fun i=>match i with
 | 22=>some (jb,(dR gw gC (rQ aV) lM))
 | 31=>some (jc,(dR gD gE (rR aW) lM))
 | _=>none
theorem BA (K:Ex→St→Option R) (rc:St→Option R) (d:fe):roundOf (tt.mode [.json]) (dy (dW aH aZ af iw)) (eR aV aW) 1 ((aN (bm Tryz.f114)).getD 0 .skip) jb (kS d) rc K=sR aH aZ af K (fun d=>rc (kS d)) d:=by kernel_rfl
theorem BB (K:Ex→St→Option R) (rc:St→Option R) (d:ff):roundOf (tt.mode [.json]) (dy (dW aH aZ af iw)) (eR aV aW) 1 ((aN (bm Tryz.f114)).getD 1 .skip) jc (kT d) rc K=sT aH aZ af iw K (fun d=>rc (kT d)) d:=by kernel_rfl
def xS (x1:Int) (x2:List Token) (x3:Int) (x4:Int) (k0:Json→(List Token)→Int→Int→Option R):Option R :=
 bif (x4 != 0)then (k0 (⟨0,⟨0,0⟩,([]:ag),([]:List ag),([]:List Json)⟩:Json) x2 x3 x4)else (cw (decide ((0:Int)≤x3)&&decide (x3<x2.length)) (let j102:=fun (z5:Bool)=>let j101:=bif (decide (x1>(16:Int)))then (k0 (⟨0,⟨0,0⟩,([]:ag),([]:List ag),([]:List Json)⟩:Json) x2 x3 41)else (bif ((x2.getD x3.toNat (Ty.bR .token)).kind==2)then (k0 (⟨5,⟨0,0⟩,(x2.getD x3.toNat (Ty.bR .token)).text,([]:List ag),([]:List Json)⟩:Json) x2 (IntKind.i64.wrap (x3+1)) x4)else (bif ((x2.getD x3.toNat (Ty.bR .token)).kind==3)then (k0 (⟨4,⟨(x2.getD x3.toNat (Ty.bR .token)).num.ao,(x2.getD x3.toNat (Ty.bR .token)).num.exp⟩,([]:ag),([]:List ag),([]:List Json)⟩:Json) x2 (IntKind.i64.wrap (x3+1)) x4)else (bif ((x2.getD x3.toNat (Ty.bR .token)).kind==4)then (k0 (⟨((mn .str (.int .i64) ((x2.getD x3.toNat (Ty.bR .token)).text) ([(([110,117,108,108]:ag),1),(([102,97,108,115,101]:ag),2),(([116,114,117,101]:ag),3)]:List (ag×Int))):Int),⟨0,0⟩,([]:ag),([]:List ag),([]:List Json)⟩:Json) x2 (IntKind.i64.wrap (x3+1)) x4)else (bif ((x2.getD x3.toNat (Ty.bR .token)).text==([91]:ag))then (aH ([93]:ag) x2 (IntKind.i64.wrap (x3+1)) x4 (fun y7 y8 y9 od=>aV (Int.natAbs x1+List.length y8+Int.natAbs y9+Int.natAbs od+Int.natAbs 0+Int.natAbs 0+Int.natAbs 0+List.length ([]:ag)+Int.natAbs 6+Int.natAbs 0+Int.natAbs 0+List.length ([]:ag)+List.length ([]:List Json)+64) x1 y7 y8 y9 od 0 0 0 ([]:ag) 6 0 0 ([]:ag) 0 ([]:List Json) (fun y38 ZE y40 y41 y42 y43 y44 y45 y46 y47 y48 y49 y50=>k0 (⟨y45,⟨y46,y47⟩,y48,([]:List ag),y50⟩:Json) y38 ZE y40)))else (aH ([125]:ag) x2 (IntKind.i64.wrap (x3+1)) x4 (fun y51 y52 y53 y54=>aW (Int.natAbs x1+List.length y52+Int.natAbs y53+Int.natAbs y54+Int.natAbs 0+Int.natAbs 0+Int.natAbs 0+List.length ([]:ag)+Int.natAbs 7+Int.natAbs 0+Int.natAbs 0+List.length ([]:ag)+List.length ([]:List ag)+List.length ([]:List Json)+64) x1 y51 y52 y53 y54 0 0 0 ([]:ag) 7 0 0 ([]:ag) ([]:List ag) 0 ([]:List Json) (fun y87 y88 y89 y90 y91 y92 y93 y94 y95 y96 y97 y98 y99 y100=>k0 (⟨y94,⟨y95,y96⟩,y97,y98,y100⟩:Json) y87 y88 y89))))))); bif ((x2.getD x3.toNat (Ty.bR .token)).kind==5)then (k0 (⟨0,⟨0,0⟩,([]:ag),([]:List ag),([]:List Json)⟩:Json) x2 x3 40)else (bif ((x2.getD x3.toNat (Ty.bR .token)).kind==1)then (bif (!z5)then (k0 (⟨0,⟨0,0⟩,([]:ag),([]:List ag),([]:List Json)⟩:Json) x2 x3 40)else (j101))else (j101)); bif ((x2.getD x3.toNat (Ty.bR .token)).kind==1)then (bif ((x2.getD x3.toNat (Ty.bR .token)).text==([91]:ag))then (j102 true)else (j102 ((x2.getD x3.toNat (Ty.bR .token)).text==([123]:ag))))else (j102 false)))
theorem Ih:dD (R:=R) (tt.mode [.json]) (dW aH aZ af iw) (eR aV aW) false Tryz.f114 dU dV (cJ (xS aH aV aW)):=fun x y k=>by kernel_rfl
end
theorem Ho (af:bh R) (iq:aq.Spec.Ok Tryz.prog 114 (aC dU dV (cJ af) av)):cr (R:=R) Tryz.prog (dW (R:=R) aH aZ af iw) := .d (xQ R) rfl <| .d (Hn R) rfl <| .f iq rfl <| .c (ZY R) <| .n
def aV (af:bh R):lp R
 | 0,_,_,_,_,_,_,_,_,_,_,_,_,_,_,_,_=>none
 | n+1,jf,jj,jr,ur,Eg,FT,RS,RT,RU,RV,yc,Ka,Tj,Tk,x14',e0=>sQ aH aZ af (fun jf jj jr ur Eg FT RS RT RU RV yc Ka Tj Tk x14'=>aV af n jf jj jr ur Eg FT RS RT RU RV yc Ka Tj Tk x14' e0) jf jj jr ur Eg FT RS RT RU RV yc Ka Tj Tk x14' e0
def sU (af:bh R) (K:Ex→St→Option R) (n:Nat) (d:fe):Option R:=aV af n d.1 d.2.1 d.2.2.1 d.2.2.2.1 d.2.2.2.2.1 d.2.2.2.2.2.1 d.2.2.2.2.2.2.1 d.2.2.2.2.2.2.2.1 d.2.2.2.2.2.2.2.2.1 d.2.2.2.2.2.2.2.2.2.1 d.2.2.2.2.2.2.2.2.2.2.1 d.2.2.2.2.2.2.2.2.2.2.2.1 d.2.2.2.2.2.2.2.2.2.2.2.2.1 d.2.2.2.2.2.2.2.2.2.2.2.2.2.1 d.2.2.2.2.2.2.2.2.2.2.2.2.2.2 (lr K)
def aW (af:bh R):lq R
 | 0,_,_,_,_,_,_,_,_,_,_,_,_,_,_,_,_,_=>none
 | n+1,jf,jj,jr,ur,Eg,FT,RS,RT,RU,RV,yc,Ka,Tj,Tk,x14',x15',e0=>sS aH aZ af iw (fun jf jj jr ur Eg FT RS RT RU RV yc Ka Tj Tk x14' x15'=>aW af n jf jj jr ur Eg FT RS RT RU RV yc Ka Tj Tk x14' x15' e0) jf jj jr ur Eg FT RS RT RU RV yc Ka Tj Tk x14' x15' e0
def sV (af:bh R) (K:Ex→St→Option R) (n:Nat) (d:ff):Option R:=aW af n d.1 d.2.1 d.2.2.1 d.2.2.2.1 d.2.2.2.2.1 d.2.2.2.2.2.1 d.2.2.2.2.2.2.1 d.2.2.2.2.2.2.2.1 d.2.2.2.2.2.2.2.2.1 d.2.2.2.2.2.2.2.2.2.1 d.2.2.2.2.2.2.2.2.2.2.1 d.2.2.2.2.2.2.2.2.2.2.2.1 d.2.2.2.2.2.2.2.2.2.2.2.2.1 d.2.2.2.2.2.2.2.2.2.2.2.2.2.1 d.2.2.2.2.2.2.2.2.2.2.2.2.2.2.1 d.2.2.2.2.2.2.2.2.2.2.2.2.2.2.2 (lu K)
theorem Dh (af:bh R) (other:dE R) (ho:ki (tt.mode [.json]) (dy (dW (R:=R) aH aZ af iw)) (eR (R:=R) (aV af) (aW af)) 1 ((aN (bm Tryz.f114)).getD 0 .skip) jb other):ki (tt.mode [.json]) (dy (dW (R:=R) aH aZ af iw)) (eR (R:=R) (aV af) (aW af)) 1 ((aN (bm Tryz.f114)).getD 0 .skip) jb (dR gw gC (rQ (aV af)) other) :=
 ei (A:=sU af) ho (gd kS (sR aH aZ af) (sU af) (fun _ _=>by kernel_rfl) (BA aH aZ af iw (aV af) (aW af)) (fun _ _ _=>by kernel_rfl)) sO Ev (fun _ _=>by kernel_rfl) (fun _ _ _=>by kernel_rfl)
theorem Di (af:bh R) (other:dE R) (ho:ki (tt.mode [.json]) (dy (dW (R:=R) aH aZ af iw)) (eR (R:=R) (aV af) (aW af)) 1 ((aN (bm Tryz.f114)).getD 1 .skip) jc other):ki (tt.mode [.json]) (dy (dW (R:=R) aH aZ af iw)) (eR (R:=R) (aV af) (aW af)) 1 ((aN (bm Tryz.f114)).getD 1 .skip) jc (dR gD gE (rR (aW af)) other) :=
 ei (A:=sV af) ho (gd kT (sT aH aZ af iw) (sV af) (fun _ _=>by kernel_rfl) (BB aH aZ af iw (aV af) (aW af)) (fun _ _ _=>by kernel_rfl)) sP Ew (fun _ _=>by kernel_rfl) (fun _ _ _=>by kernel_rfl)
def pC (af:bh R):bh R:=fun x1 x2 x3 x4 k0=>xS aH (aV af) (aW af) x1 x2 x3 x4 k0
theorem Fl (R:Type) (af:bh R) (iq:aq.Spec.Ok Tryz.prog 114 (aC dU dV (cJ af) av)):∀a∈aN (bm Tryz.f114),ji (tt.mode [.json]) (dy (dW (R:=R) aH aZ af iw)) (eR (R:=R) (aV af) (aW af)) 1 a:=by
 refine gR 2 (by kernel_rfl) fun i hi => ?_
 match i,hi with
 | 0,_=>exact dH (by kernel_rfl) (Dh af _ fm)
 | 1,_=>exact dH (by kernel_rfl) (Di af _ fm)
 | n+2,hi=>omega
theorem Fo (R:Type) (af:bh R) (iq:aq.Spec.Ok Tryz.prog 114 (aC dU dV (cJ af) av)):jT Tryz.prog 114 (Je (pC af)):=bj (TT.mode [.json]) mixed (Ho af iq) rfl rfl rfl rfl (Fl R af iq) (Ih aH aZ af iw (aV af) (aW af))
def dX:Nat→bh R
 | 0,_,_,_,_,_=>none
 | n+1,jf,jj,jr,ur,k0'=>pC (dX n) jf jj jr ur k0'
theorem Wm (n:Nat):dX (R:=R) (n+1)=pC (dX n):=by kernel_rfl
theorem Gd (R:Type):∀n,aq.Spec.Ok Tryz.prog 114 (aC dU dV (cJ (dX (R:=R) n)) av) :=
 AX (run:=fun n=>cJ (dX (R:=R) n)) (fun x y k=>by kernel_rfl) fun n hyp=>Fo R (dX n) hyp av (fA _)
def Bb:bh R:=fun x1 x2 x3 x4 k0=>dX 40 x1 x2 x3 x4 k0
theorem Ge (R:Type):cJ (R:=R) Bb=fun x y k=>cJ (dX 40) x y k:=by kernel_rfl
theorem XZ (R:Type) (other:aq.Spec R) (ho:aq.Spec.Ok Tryz.prog 114 other):aq.Spec.Ok Tryz.prog 114 (aC dU dV (cJ Bb) other) :=
 HM (Lg (run:=fun n=>cJ (dX (R:=R) n)) (fun x y=>40) ho (Gd R)) (Ge R)
end Go.Proofs.YtidfokedcnhahaaGreatDoor
/-
 Functions of the program as pure Lean functions, and the ties; printed by wip/tools/emit.py.
-/
set_option maxRecDepth 100000
namespace Go.Proofs.YtidfokedcnhahaaGreatDoor
open Go Go.aq
variable {R:Type}
end Go.Proofs.YtidfokedcnhahaaGreatDoor
namespace Go.Proofs.YtidfokedcnhahaaGreatDoor.Pu
open Go Go.aq
theorem tmod_zero {m:Int} (h0:m≠0) (h:Int.tmod m 10=0):∃c:Int,m=10*c∧c≠0∧Int.tdiv m 10=c:=by
 obtain ⟨c,rfl⟩:=Int.dvd_of_tmod_eq_zero h
 exact ⟨c,rfl,by rintro rfl; exact h0 rfl,Int.mul_tdiv_cancel_left c (by decide)⟩
theorem made_loops {R:Type} (d:fT):∀(j:Nat) (m e:Int) (n:Nat),m≠0→m.natAbs<10 ^ j→m.natAbs<n→0≤e→e+j≤19→yx m →
  ∃m' e':Int,yx m'∧yx e'∧(∀e0,bL (R:=R) n m e d e0=e0 m' e' d)∧(∀e0 e1,cF (R:=R) n m e d e0 e1=e0 m' e' d):=by
 intro j
 induction j with
 | zero=>intro m e n h0 h; omega
 | succ j ih =>
  intro m e n h0 h hn he hej hm
  obtain ⟨hm1,hm2⟩:=hm
  cases n with
  | zero=>omega
  | succ n =>
   by_cases hq:Int.tmod m 10=0
   ·have c1:(Int.tmod m 10==0)=true:=by simpa using hq
    have c2:decide (e>(1099511627776:Int))=false:=decide_eq_false (by omega)
    obtain ⟨c,hc,Sj,hcd⟩:=tmod_zero h0 hq
    have hp:10 ^ (j+1)=10*10 ^ j:=by rw[Nat.pow_succ,Nat.mul_comm]
    obtain ⟨m',e',g1,g2,g3,g4⟩:=ih c (e+1) n Sj (by rw[hp]at h; omega) (by omega) (by omega) (by omega) ⟨by omega,by omega⟩
    refine ⟨m',e',g1,g2,fun e0 => ?_,fun e0 e1 => ?_⟩
    ·show fV (fun a b c=>bL n a b c e0) m e d e0=_
     unfold fV
     rw[c1,cond_true,hcd,cL (by omega) (by omega),cL (by omega) (by omega)]
     exact g3 e0
    ·show jX (fun a b c=>cF n a b c e0 e1) m e d e0 e1=_
     unfold jX
     rw[c1,cond_true,c2,cond_false,hcd,cL (by omega) (by omega),cL (by omega) (by omega)]
     exact g4 e0 e1
   ·have c1:(Int.tmod m 10==0)=false:=by simpa using hq
    refine ⟨m,e,⟨hm1,hm2⟩,⟨by omega,by omega⟩,fun e0 => ?_,fun e0 e1 => ?_⟩
    ·show fV _ m e d e0=_
     unfold fV
     rw[c1,cond_false]
    ·show jX _ m e d e0 e1=_
     unfold jX
     rw[c1,cond_false]
theorem made_same {R:Type} (n:Int) (hn:yx n):∃(d:fT) (b:Bool),yx d.ao∧yx d.exp∧(∀k:fT→Bool→Option R,bk n 0 k=k d b)∧∀k:fT→Bool→Option R,tL n 0 k=k d b:=by
 obtain ⟨hn1,hn2⟩:=hn
 by_cases h0:n=0
 ·subst h0
  exact ⟨⟨0,0⟩,true,⟨by decide,by decide⟩,⟨by decide,by decide⟩,fun k=>rfl,fun k=>rfl⟩
 ·have c0:(n==0)=false:=by simpa using h0
  have c5:min (0:Int) 1000000=0:=by decide
  obtain ⟨m',e',g1,g2,g3,g4⟩:=made_loops (R:=R) ⟨0,0⟩ 19 n 0 (Int.natAbs n+Int.natAbs 0+fT.fu (⟨0,0⟩:fT)+64) h0 (by omega) (by omega) (by omega) (by omega) ⟨hn1,hn2⟩
  by_cases hb:(-1000000000000000≤m'∧m'≤1000000000000000)∧(-9≤e'∧e'≤9)
  ·refine ⟨⟨m',e'⟩,true,g1,g2,fun k => ?_,fun k => ?_⟩
   ·unfold bk kq
    rw[c0,cond_false,c5,g3,Hy]
    have d1:(decide (-1000000000000000≤m')&&decide (m'≤1000000000000000))=true:=by simp; omega
    have d2:(decide (-9≤e')&&decide (e'≤9))=true:=by simp; omega
    rw[d1,Bool.not_true,cond_false,Hy,d2,Bool.not_true,cond_false]
   ·unfold tL tK
    rw[c0,cond_false,g4]
    have d1:decide (m'>(1000000000000000:Int))=false:=decide_eq_false (by omega)
    have d2:decide (m'<(-1000000000000000:Int))=false:=decide_eq_false (by omega)
    have d3:decide (e'>(9:Int))=false:=decide_eq_false (by omega)
    have d4:decide (e'<(-9:Int))=false:=decide_eq_false (by omega)
    simp only[d1,d2,d3,d4,cond_false]
  ·refine ⟨⟨0,0⟩,false,⟨by decide,by decide⟩,⟨by decide,by decide⟩,fun k => ?_,fun k => ?_⟩
   ·unfold bk kq
    rw[c0,cond_false,c5,g3,Hy]
    by_cases hm : -1000000000000000≤m'∧m'≤1000000000000000
    ·have d1:(decide (-1000000000000000≤m')&&decide (m'≤1000000000000000))=true:=by simp; omega
     have d2:(decide (-9≤e')&&decide (e'≤9))=false:=by simp only[Bool.and_eq_false_imp,decide_eq_true_eq,decide_eq_false_iff_not]; omega
     rw[d1,Bool.not_true,cond_false,Hy,d2,Bool.not_false,cond_true]
    ·have d1:(decide (-1000000000000000≤m')&&decide (m'≤1000000000000000))=false:=by simp only[Bool.and_eq_false_imp,decide_eq_true_eq,decide_eq_false_iff_not]; omega
     rw[d1,Bool.not_false,cond_true]
   ·unfold tL tK
    rw[c0,cond_false,g4]
    by_cases d1:m'>(1000000000000000:Int)
    ·simp only[decide_eq_true d1,cond_true]
    ·by_cases d2:m'<(-1000000000000000:Int)
     ·simp only[decide_eq_false d1,decide_eq_true d2,cond_true,cond_false]
     ·by_cases d3:e'>(9:Int)
      ·simp only[decide_eq_false d1,decide_eq_false d2,decide_eq_true d3,cond_true,cond_false]
      ·have d4:e'<(-9:Int):=by omega
       simp only[decide_eq_false d1,decide_eq_false d2,decide_eq_false d3,decide_eq_true d4,cond_true,cond_false]
end Go.Proofs.YtidfokedcnhahaaGreatDoor.Pu
set_option maxRecDepth 100000
namespace Go.Proofs.YtidfokedcnhahaaGreatDoor
open Go Go.aq
end Go.Proofs.YtidfokedcnhahaaGreatDoor
namespace Go.Proofs.YtidfokedcnhahaaGreatDoor
open Go Go.aq
end Go.Proofs.YtidfokedcnhahaaGreatDoor
set_option maxRecDepth 100000
namespace Go.Proofs.YtidfokedcnhahaaGreatDoor
open Go Go.aq
theorem strip_ex:∀(b:Nat) (m:Int),m≠0→m.natAbs<b→∃(j:Nat) (u:Int),m=u*10 ^ j∧Int.tmod u 10≠0
 | 0,m,_,h=>by omega
 | b+1,m,h0,hb=>by
  by_cases h:Int.tmod m 10=0
  ·have hd:m=Int.tdiv m 10*10:=by have:=Int.tmod_add_mul_tdiv m 10; omega
   have hn:(Int.tdiv m 10).natAbs<m.natAbs:=by rw[Int.natAbs_tdiv]; show m.natAbs / 10<m.natAbs; omega
   obtain ⟨j,u,e,hu⟩:=strip_ex b (Int.tdiv m 10) (by omega) (by omega)
   refine ⟨j+1,u,?_,hu⟩
   rw[Int.pow_succ,←Int.mul_assoc,←e]
   exact hd
  ·exact ⟨0,m,by simp,h⟩
theorem strip_one:∀(i j:Nat) (u v:Int),Int.tmod u 10≠0→Int.tmod v 10≠0→u*10 ^ i=v*10 ^ j→i=j∧u=v
 | 0,0,u,v,_,_,h=>⟨rfl,by simpa using h⟩
 | 0,j+1,u,v,hu,_,h=>by
  exfalso
  apply hu
  have:u=(v*10 ^ j)*10:=by rw[Int.pow_succ,←Int.mul_assoc]at h; simpa using h
  rw[this]
  exact Int.mul_tmod_left _ _
 | i+1,0,u,v,_,hv,h=>by
  exfalso
  apply hv
  have:v=(u*10 ^ i)*10:=by rw[Int.pow_succ,←Int.mul_assoc]at h; simpa using h.symm
  rw[this]
  exact Int.mul_tmod_left _ _
 | i+1,j+1,u,v,hu,hv,h=>by
  have h2:u*10 ^ i=v*10 ^ j:=by
   rw[Int.pow_succ,Int.pow_succ,←Int.mul_assoc,←Int.mul_assoc]at h
   omega
  obtain ⟨h3,h4⟩:=strip_one i j u v hu hv h2
  exact ⟨by omega,h4⟩
theorem Rv (j:Nat):(1:Int)≤10 ^ j:=by
 induction j with
 | zero=>simp
 | succ j ih=>rw[Int.pow_succ]; omega
theorem TE (u:Int) (j:Nat):u.natAbs≤(u*10 ^ j).natAbs:=by
 rw[Int.natAbs_mul]
 have h:=Rv j
 have:1≤((10:Int) ^ j).natAbs:=by omega
 exact Nat.le_mul_of_pos_right _ this
theorem noughts_le (u:Int) (hu:u≠0):∀j:Nat,j≤(u*10 ^ j).natAbs:=by
 intro j
 rw[Int.natAbs_mul]
 have h1:1≤u.natAbs:=by omega
 have h2:j≤((10:Int) ^ j).natAbs:=by
  induction j with
  | zero=>simp
  | succ j ih =>
   have:=Rv j
   rw[Int.pow_succ,Int.natAbs_mul]
   show j+1≤((10:Int) ^ j).natAbs*10
   omega
 calc j≤((10:Int) ^ j).natAbs:=h2
  _≤u.natAbs*((10:Int) ^ j).natAbs:=Nat.le_mul_of_pos_left _ h1
theorem noughts_pow (u:Int) (hu:u≠0) (j:Nat):2 ^ j≤(u*10 ^ j).natAbs:=by
 rw[Int.natAbs_mul]
 have h2:∀j:Nat,2 ^ j≤((10:Int) ^ j).natAbs:=by
  intro j
  induction j with
  | zero=>simp
  | succ j ih =>
   rw[Int.pow_succ,Int.natAbs_mul,Nat.pow_succ]
   show 2 ^ j*2≤((10:Int) ^ j).natAbs*10
   omega
 exact Nat.le_trans (h2 j) (Nat.le_mul_of_pos_left _ (by omega))
theorem Z5 {u:Int} (hu:u≠0) {j:Nat} (hb:yx (u*10 ^ j)):j<64:=by
 have h:=noughts_pow u hu j
 unfold yx at hb
 rcases Nat.lt_or_ge j 64 with h1|h1
 ·exact h1
 ·have h2:(2:Nat) ^ 64≤2 ^ j:=Nat.pow_le_pow_right (by omega) h1
  have h3:(2:Nat) ^ 64=18446744073709551616:=rfl
  omega
theorem Wg {R:Type} (d:fT) (e0:Int→Int→fT→Option R):∀(j n:Nat) (u x:Int),j<n→Int.tmod u 10≠0→yx (u*10 ^ j) → -9223372036854775808≤x→x+j≤4000000000000000000 →
  bL n (u*10 ^ j) x d e0=e0 u (x+j) d:=by
 intro j
 induction j with
 | zero =>
  intro n u x hn hu hb h1 h2
  obtain ⟨m,rfl⟩:∃m,n=m+1:=⟨n - 1,by omega⟩
  have e:bL (m+1) (u*10 ^ 0) x d e0=fV (fun jf jj jr=>bL m jf jj jr e0) (u*10 ^ 0) x d e0:=rfl
  rw[e]
  unfold fV
  have e1:u*10 ^ 0=u:=by simp
  have e2:(Int.tmod u 10==0)=false:=by rw[beq_eq_false_iff_ne]; exact hu
  rw[e1,e2,cond_false]
  simp
 | succ j ih =>
  intro n u x hn hu hb h1 h2
  obtain ⟨m,rfl⟩:∃m,n=m+1:=⟨n - 1,by omega⟩
  have e:bL (m+1) (u*10 ^ (j+1)) x d e0=fV (fun jf jj jr=>bL m jf jj jr e0) (u*10 ^ (j+1)) x d e0:=rfl
  rw[e]
  unfold fV
  have ep:u*10 ^ (j+1)=u*10 ^ j*10:=by rw[Int.pow_succ,Int.mul_assoc]
  unfold yx at hb
  rw[ep]at hb ⊢
  have e1:(Int.tmod (u*10 ^ j*10) 10==0)=true:=by rw[Int.mul_tmod_left]; rfl
  have e2:Int.tdiv (u*10 ^ j*10) 10=u*10 ^ j:=Int.mul_tdiv_cancel _ (by omega)
  rw[e1,cond_true,e2,cL (n:=u*10 ^ j) (by omega) (by omega),cL (n:=x+1) (by omega) (by omega)]
  show bL m (u*10 ^ j) (x+1) d e0=_
  rw[ih m u (x+1) (by omega) hu (by unfold yx; omega) (by omega) (by omega)]
  have:x+1+(j:Int)=x+((j+1:Nat):Int):=by omega
  rw[this]
theorem LH {R:Type} (a b c:Int) (k:Bool→Option R):az a b c k=k (decide (a≤b)&&decide (b≤c)):=by
 have e:az a b c k=mu a b c k:=rfl
 rw[e]
 unfold mu
 by_cases h1:a≤b
 ·rw[aQ h1]; first|rfl|simp
 ·rw[cv h1]; first|rfl|simp
def Xj (u x:Int):fT×Bool:=if -1000000000000000≤u∧u≤1000000000000000 ∧ -9≤x∧x≤9 then (⟨u,x⟩,true)else (⟨0,0⟩,false)
theorem make_ok {R:Type} (u:Int) (j:Nat) (x:Int) (hu:Int.tmod u 10≠0) (hb:yx (u*10 ^ j)) (h1 : -9223372036854775808≤x) (h2:x≤1000000) (k:fT→Bool→Option R) :
  bk (u*10 ^ j) x k=k (Xj u (x+j)).1 (Xj u (x+j)).2:=by
 have e:bk (u*10 ^ j) x k=kq az bL (u*10 ^ j) x k:=rfl
 rw[e]
 unfold kq
 have hu0:u≠0:=by rintro rfl; exact hu rfl
 have ha:=TE u j
 have hn:=noughts_le u hu0 j
 have h64:=Z5 hu0 hb
 have h0:(u*10 ^ j==0)=false:=by rw[beq_eq_false_iff_ne]; omega
 have hm:min x 1000000=x:=Int.min_eq_left h2
 unfold yx at hb
 rw[h0,cond_false,hm,Wg _ _ j _ u x (by omega) hu (by unfold yx; exact hb) h1 (by omega)]
 rw[LH]
 unfold Xj
 by_cases c1 : -1000000000000000≤u∧u≤1000000000000000
 ·rw[aQ c1.1,aQ c1.2]
  simp only[Bool.and_self,Bool.not_true,cond_false]
  rw[LH]
  by_cases c2 : -9≤x+(j:Int)∧x+(j:Int)≤9
  ·rw[aQ c2.1,aQ c2.2,if_pos ⟨c1.1,c1.2,c2.1,c2.2⟩]
   rfl
  ·rw[if_neg (fun h=>c2 h.2.2)]
   have:(decide (-9≤x+(j:Int))&&decide (x+(j:Int)≤9))=false:=by
    rw[Bool.and_eq_false_iff,decide_eq_false_iff_not,decide_eq_false_iff_not]; omega
   rw[this]
   rfl
 ·rw[if_neg (fun h=>c1 ⟨h.1,h.2.1⟩)]
  have:(decide (-1000000000000000≤u)&&decide (u≤1000000000000000))=false:=by
   rw[Bool.and_eq_false_iff,decide_eq_false_iff_not,decide_eq_false_iff_not]; omega
  rw[this]
  rfl
theorem Wn {R:Type} (x:Int) (k:fT→Bool→Option R):bk 0 x k=k ⟨0,0⟩ true:=by
 have e:bk 0 x k=kq az bL 0 x k:=rfl
 rw[e]
 rfl
theorem right_mk {R:Type} {u x:Int} (hu:Int.tmod u 10≠0) (h : -1000000000000000≤u∧u≤1000000000000000 ∧ -9≤x∧x≤9) (k:Bool→Option R):bS ⟨u,x⟩ k=k true:=by
 have e:bS ⟨u,x⟩ k=jD az ⟨u,x⟩ k:=rfl
 rw[e]
 unfold jD
 have hu0:u≠0:=by rintro rfl; exact hu rfl
 have e1:(u==0)=false:=by rw[beq_eq_false_iff_ne]; exact hu0
 have e2:(Int.tmod u 10 != 0)=true:=bne_iff_ne.2 hu
 simp only[e1,e2,cond_false,cond_true,LH]
 rw[aQ h.1,aQ h.2.1,aQ h.2.2.1,aQ h.2.2.2]
 rfl
end Go.Proofs.YtidfokedcnhahaaGreatDoor
/-
 Functions of the program as pure Lean functions, and the ties; printed by wip/tools/emit.py.
-/
set_option maxRecDepth 100000
namespace Go.Proofs.YtidfokedcnhahaaGreatDoor
open Go Go.aq
variable {R:Type}
/-! ### slices.Min[[]int,int] -/
abbrev qx (R:Type):Type:=(List Int)→(Int→Option R)→Option R
abbrev yE:List cY := [.leaf (.sl (.int .i64))]
abbrev yF:List aY := []
def Fp (fn:qx R):jU R yE yF:=fun x y k=>fn x.1 (fun q0=>k (.int .i64 q0) [])
def GF (fn:qx R):=aC yE yF (Fp fn)
abbrev qW (R:Type):Type:=Nat→(List Int)→Int→Int→(Int→Option R)→Option R
def mQ:Hint := { live := [0,3,4],own := [],rows := [],cells := [],drop := [],out := [2,3] }
abbrev iz:Type:=(List Int)×Int×Int
def pD:iz→St:=fun d=>⟨.sl (.int .i64) d.1 .no::U 2 (.int .i64 d.2.1 :: .int .i64 d.2.2::U 20 ([])), []⟩
def qX (K:Ex→St→Option R) (q0:Int):Option R:=K (.exit 0) ⟨U 3 (.int .i64 q0::U 21 ([])), []⟩
abbrev jZ:List cY := .leaf (.sl (.int .i64))::PU 2 (.leaf (.int .i64) :: .leaf (.int .i64)::PU 20 ([]))
abbrev j0:List aY := []
def Bc (x:cY.cD jZ) (y:aY.cD j0):Nat:=(List.length x.1+Int.natAbs x.2.2.2.1+Int.natAbs x.2.2.2.2.1+64)
def LI (x:cY.cD jZ) (y:aY.cD j0):iz:=(x.1,x.2.2.2.1,x.2.2.2.2.1)
def zW (L:qW R):Ed R jZ j0:=fun x y K=>L (Bc x y) x.1 x.2.2.2.1 x.2.2.2.2.1 (qX K)
section
variable (cg:qW R)
def mR (fc:(List Int)→Int→Int→Option R) (x2:List Int) (x3:Int) (x4:Int) (e0:Int→Option R):Option R :=
 bif (decide (x4<(x2.length:Int)))then (cw (decide ((0:Int)≤x4)&&decide (x4<x2.length)) (fc x2 (min x3 (x2.getD x4.toNat (Ty.bR (.int .i64)))) (IntKind.i64.wrap (x4+1))))else (e0 x3)
def Bd (K:Ex→St→Option R) (rc:iz→Option R) (d:iz):Option R:=mR (fun z0 z1 z2=>rc (z0,z1,z2)) d.1 d.2.1 d.2.2 (qX K)
def nG:Nat→Option (Hint×dE R):=fun i=>match i with
 | 5=>some (mQ,(dR jZ j0 (zW cg) lM))
 | _=>none
theorem Ii (K:Ex→St→Option R) (rc:St→Option R) (d:iz):roundOf tt (dy []) (nG cg) 0 ((aN (bm Tryz.f89)).getD 0 .skip) mQ (pD d) rc K=Bd K (fun d=>rc (pD d)) d:=by kernel_rfl
def yG (x1:List Int) (k0:Int→Option R):Option R :=
 bif (decide ((x1.length:Int)<(1:Int)))then (none)else (cw (decide ((0:Int)<x1.length)) (cg (List.length x1+Int.natAbs (x1.getD 0 (Ty.bR (.int .i64)))+Int.natAbs 1+64) x1 (x1.getD 0 (Ty.bR (.int .i64))) 1 (fun y5=>k0 y5)))
theorem Qv:dD (R:=R) tt [] (nG cg) false Tryz.f89 yE yF (Fp (yG cg)):=fun x y k=>by kernel_rfl
end
def cg:qW R
 | 0,_,_,_,_=>none
 | n+1,jf,jj,jr,e0=>mR (fun jf jj jr=>cg n jf jj jr e0) jf jj jr e0
def Be (K:Ex→St→Option R) (n:Nat) (d:iz):Option R:=cg n d.1 d.2.1 d.2.2 (qX K)
theorem Kx (other:dE R) (ho:ki tt (dy []) (nG (R:=R) cg) 0 ((aN (bm Tryz.f89)).getD 0 .skip) mQ other):ki tt (dy []) (nG (R:=R) cg) 0 ((aN (bm Tryz.f89)).getD 0 .skip) mQ (dR jZ j0 (zW (cg)) other) :=
 ei (A:=Be) ho (gd pD (Bd) (Be) (fun _ _=>by kernel_rfl) (Ii cg) (fun _ _ _=>by kernel_rfl)) Bc LI (fun _ _=>by kernel_rfl) (fun _ _ _=>by kernel_rfl)
def fJ:qx R:=fun x1 k0=>yG cg x1 k0
theorem LJ (R:Type):∀a∈aN (bm Tryz.f89),ji tt (dy []) (nG (R:=R) cg) 0 a:=by
 refine gR 1 (by kernel_rfl) fun i hi => ?_
 match i,hi with
 | 0,_=>exact dH (by kernel_rfl) (Kx _ fm)
 | n+1,hi=>omega
theorem Nu (R:Type):jT Tryz.prog 89 (GF (fJ (R:=R))):=bj TT mixed .n rfl rfl rfl rfl (LJ R) (Qv cg)
/-! ### slices.Max[[]int,int] -/
abbrev qy (R:Type):Type:=(List Int)→(Int→Option R)→Option R
abbrev yH:List cY := [.leaf (.sl (.int .i64))]
abbrev yI:List aY := []
def Fq (fn:qy R):jU R yH yI:=fun x y k=>fn x.1 (fun q0=>k (.int .i64 q0) [])
def GG (fn:qy R):=aC yH yI (Fq fn)
abbrev qY (R:Type):Type:=Nat→(List Int)→Int→Int→(Int→Option R)→Option R
def mS:Hint := { live := [0,3,4],own := [],rows := [],cells := [],drop := [],out := [2,3] }
abbrev iA:Type:=(List Int)×Int×Int
def pE:iA→St:=fun d=>⟨.sl (.int .i64) d.1 .no::U 2 (.int .i64 d.2.1 :: .int .i64 d.2.2::U 20 ([])), []⟩
def qZ (K:Ex→St→Option R) (q0:Int):Option R:=K (.exit 0) ⟨U 3 (.int .i64 q0::U 21 ([])), []⟩
abbrev j4:List cY := .leaf (.sl (.int .i64))::PU 2 (.leaf (.int .i64) :: .leaf (.int .i64)::PU 20 ([]))
abbrev j7:List aY := []
def Bf (x:cY.cD j4) (y:aY.cD j7):Nat:=(List.length x.1+Int.natAbs x.2.2.2.1+Int.natAbs x.2.2.2.2.1+64)
def LK (x:cY.cD j4) (y:aY.cD j7):iA:=(x.1,x.2.2.2.1,x.2.2.2.2.1)
def zX (L:qY R):Ed R j4 j7:=fun x y K=>L (Bf x y) x.1 x.2.2.2.1 x.2.2.2.2.1 (qZ K)
section
variable (cj:qY R)
def mT (fc:(List Int)→Int→Int→Option R) (x2:List Int) (x3:Int) (x4:Int) (e0:Int→Option R):Option R :=
 bif (decide (x4<(x2.length:Int)))then (cw (decide ((0:Int)≤x4)&&decide (x4<x2.length)) (fc x2 (max x3 (x2.getD x4.toNat (Ty.bR (.int .i64)))) (IntKind.i64.wrap (x4+1))))else (e0 x3)
def Bg (K:Ex→St→Option R) (rc:iA→Option R) (d:iA):Option R:=mT (fun z0 z1 z2=>rc (z0,z1,z2)) d.1 d.2.1 d.2.2 (qZ K)
def nH:Nat→Option (Hint×dE R):=fun i=>match i with
 | 5=>some (mS,(dR j4 j7 (zX cj) lM))
 | _=>none
theorem Ij (K:Ex→St→Option R) (rc:St→Option R) (d:iA):roundOf tt (dy []) (nH cj) 0 ((aN (bm Tryz.f90)).getD 0 .skip) mS (pE d) rc K=Bg K (fun d=>rc (pE d)) d:=by kernel_rfl
def yJ (x1:List Int) (k0:Int→Option R):Option R :=
 bif (decide ((x1.length:Int)<(1:Int)))then (none)else (cw (decide ((0:Int)<x1.length)) (cj (List.length x1+Int.natAbs (x1.getD 0 (Ty.bR (.int .i64)))+Int.natAbs 1+64) x1 (x1.getD 0 (Ty.bR (.int .i64))) 1 (fun y5=>k0 y5)))
theorem Qw:dD (R:=R) tt [] (nH cj) false Tryz.f90 yH yI (Fq (yJ cj)):=fun x y k=>by kernel_rfl
end
def cj:qY R
 | 0,_,_,_,_=>none
 | n+1,jf,jj,jr,e0=>mT (fun jf jj jr=>cj n jf jj jr e0) jf jj jr e0
def Bh (K:Ex→St→Option R) (n:Nat) (d:iA):Option R:=cj n d.1 d.2.1 d.2.2 (qZ K)
theorem Ky (other:dE R) (ho:ki tt (dy []) (nH (R:=R) cj) 0 ((aN (bm Tryz.f90)).getD 0 .skip) mS other):ki tt (dy []) (nH (R:=R) cj) 0 ((aN (bm Tryz.f90)).getD 0 .skip) mS (dR j4 j7 (zX (cj)) other) :=
 ei (A:=Bh) ho (gd pE (Bg) (Bh) (fun _ _=>by kernel_rfl) (Ij cj) (fun _ _ _=>by kernel_rfl)) Bf LK (fun _ _=>by kernel_rfl) (fun _ _ _=>by kernel_rfl)
def fK:qy R:=fun x1 k0=>yJ cj x1 k0
theorem LL (R:Type):∀a∈aN (bm Tryz.f90),ji tt (dy []) (nH (R:=R) cj) 0 a:=by
 refine gR 1 (by kernel_rfl) fun i hi => ?_
 match i,hi with
 | 0,_=>exact dH (by kernel_rfl) (Ky _ fm)
 | n+1,hi=>omega
theorem Nv (R:Type):jT Tryz.prog 90 (GG (fK (R:=R))):=bj TT mixed .n rfl rfl rfl rfl (LL R) (Qw cj)
/-! ### humpyard/state.Right -/
abbrev fL (R:Type):Type:=aq.State→(Bool→Option R)→Option R
abbrev Kz:List cY := [.agg [.int .i64, .int .i64, .str, .int .i64, .int .i64, .bool, .int .i64, .int .i64, .bool, .int .i64]]
abbrev KA:List aY := []
def Qx (fn:fL R):jU R Kz KA:=fun x y k=>fn (⟨x.1.1,x.1.2.1,x.1.2.2.1,x.1.2.2.2.1,x.1.2.2.2.2.1,x.1.2.2.2.2.2.1,x.1.2.2.2.2.2.2.1,x.1.2.2.2.2.2.2.2.1,(t8 x.1).1,(t8 x.1).2.1⟩:aq.State) (fun q0=>k (.bool q0) [])
def rh (fn:fL R):=aC Kz KA (Qx fn)
section
variable (topic_Name:topic_Name_ty R) (fK:qy R) (fJ:qx R)
def SJ:List (lC R) := [(61,true,(topic_Name_s topic_Name av)),(90,true,(GG fK av)),(89,true,(GF fJ av))]
def KB (x1:aq.State) (k0:Bool→Option R):Option R :=
 topic_Name x1.bc (fun y2=>bif y2 then (fJ ([x1.header,x1.dc,x1.order,x1.update,x1.node,x1.seq,x1.accepted]:List Int) (fun y3=>bif (decide (y3≥(0:Int)))then (fK ([x1.header,x1.dc,x1.order,x1.update,x1.node,x1.seq,x1.accepted]:List Int) (fun y4=>bif (decide (y4≤(1000000000:Int)))then (bif ((Int.tmod x1.seq 2)==0)then (bif x1.live then (k0 true)else (k0 (!x1.bz)))else (k0 false))else (k0 false)))else (k0 false)))else (k0 false))
theorem Z6:dD (R:=R) tt (SJ topic_Name fK fJ) nK false Tryz.f41 Kz KA (Qx (KB topic_Name fK fJ)):=fun x y k=>by kernel_rfl
end
theorem X0:cr (R:=R) Tryz.prog (SJ (R:=R) topic_Name fK fJ) := .c (topic_Name_S_ok R) <| .c (Nv R) <| .c (Nu R) <| .n
def aE:fL R:=fun x1 k0=>KB topic_Name fK fJ x1 k0
theorem oy (R:Type):jT Tryz.prog 41 (rh (aE (R:=R))):=bj TT mixed (X0 (R:=R)) rfl rfl rfl rfl bX (Z6 topic_Name fK fJ)
end Go.Proofs.YtidfokedcnhahaaGreatDoor
/-
 Functions of the program as pure Lean functions, and the ties; printed by wip/tools/emit.py.
-/
set_option maxRecDepth 100000
namespace Go.Proofs.YtidfokedcnhahaaGreatDoor
open Go Go.aq
variable {R:Type}
/-! ### humpyard/state.number$1 -/
abbrev kU (R:Type):Type:=aq.State→(Json→aq.State→Option R)→Option R
abbrev u0:List cY := [.leaf (.ptr 0 0)]
abbrev u4:List aY := [.cells [.ptr 1 0], .cells [.int .i64, .int .i64, .str, .int .i64, .int .i64, .bool, .int .i64, .int .i64, .bool, .int .i64]]
def Cw (fn:kU R):jU R u0 u4:=fun x y k=>fn (⟨y.2.1.1,y.2.1.2.1,y.2.1.2.2.1,y.2.1.2.2.2.1,y.2.1.2.2.2.2.1,y.2.1.2.2.2.2.2.1,y.2.1.2.2.2.2.2.2.1,y.2.1.2.2.2.2.2.2.2.1,(t8 y.2.1).1,(t8 y.2.1).2.1⟩:aq.State) (fun q0 q1=>k (.agg [.int .i64 q0.kind, .int .i64 q0.num.ao, .int .i64 q0.num.exp, .str q0.text, .sl .str q0.names .no, .sl .json q0.items .no]) [.cells [.ptr 1 0], .cells [.int .i64 q1.header, .int .i64 q1.dc, .str q1.bc, .int .i64 q1.order, .int .i64 q1.update, .bool q1.live, .int .i64 q1.node, .int .i64 q1.seq, .bool q1.bz, .int .i64 q1.accepted]])
def Dv (fn:kU R):=aC u0 u4 (Cw fn)
section
variable (bf:kr R)
def Dw:List (lC R) := [(48,true,(pX bf av))]
def u6 (x1:aq.State) (k0:Json→aq.State→Option R):Option R :=
 bf x1.header (fun y2=>k0 (⟨y2.kind,⟨y2.num.ao,y2.num.exp⟩,y2.text,y2.names,y2.items⟩:Json) x1)
theorem Nw:dD (R:=R) tt (Dw bf) nK false Tryz.f174 u0 u4 (Cw (u6 bf)):=fun x y k=>by kernel_rfl
end
theorem LM:cr (R:=R) Tryz.prog (Dw (R:=R) bf) := .c (mv R) <| .n
def dn:kU R:=fun x1 k0=>u6 bf x1 k0
theorem KC (R:Type):jT Tryz.prog 174 (Dv (dn (R:=R))):=bj TT mixed (LM (R:=R)) rfl rfl rfl rfl bX (Nw bf)
/-! ### humpyard/state.number$1 -/
abbrev kV (R:Type):Type:=aq.State→(Json→aq.State→Option R)→Option R
abbrev u7:List cY := [.leaf (.ptr 0 0)]
abbrev va:List aY := [.cells [.ptr 1 1], .cells [.int .i64, .int .i64, .str, .int .i64, .int .i64, .bool, .int .i64, .int .i64, .bool, .int .i64]]
def Cx (fn:kV R):jU R u7 va:=fun x y k=>fn (⟨y.2.1.1,y.2.1.2.1,y.2.1.2.2.1,y.2.1.2.2.2.1,y.2.1.2.2.2.2.1,y.2.1.2.2.2.2.2.1,y.2.1.2.2.2.2.2.2.1,y.2.1.2.2.2.2.2.2.2.1,(t8 y.2.1).1,(t8 y.2.1).2.1⟩:aq.State) (fun q0 q1=>k (.agg [.int .i64 q0.kind, .int .i64 q0.num.ao, .int .i64 q0.num.exp, .str q0.text, .sl .str q0.names .no, .sl .json q0.items .no]) [.cells [.ptr 1 1], .cells [.int .i64 q1.header, .int .i64 q1.dc, .str q1.bc, .int .i64 q1.order, .int .i64 q1.update, .bool q1.live, .int .i64 q1.node, .int .i64 q1.seq, .bool q1.bz, .int .i64 q1.accepted]])
def Dx (fn:kV R):=aC u7 va (Cx fn)
section
variable (bf:kr R)
def Dy:List (lC R) := [(48,true,(pX bf av))]
def vb (x1:aq.State) (k0:Json→aq.State→Option R):Option R :=
 bf x1.dc (fun y2=>k0 (⟨y2.kind,⟨y2.num.ao,y2.num.exp⟩,y2.text,y2.names,y2.items⟩:Json) x1)
theorem Nx:dD (R:=R) tt (Dy bf) nK false Tryz.f174 u7 va (Cx (vb bf)):=fun x y k=>by kernel_rfl
end
theorem LN:cr (R:=R) Tryz.prog (Dy (R:=R) bf) := .c (mv R) <| .n
def dp:kV R:=fun x1 k0=>vb bf x1 k0
theorem KD (R:Type):jT Tryz.prog 174 (Dx (dp (R:=R))):=bj TT mixed (LN (R:=R)) rfl rfl rfl rfl bX (Nx bf)
/-! ### humpyard/state.text$1 -/
abbrev mB (R:Type):Type:=aq.State→(Json→aq.State→Option R)→Option R
abbrev yK:List cY := [.leaf (.ptr 0 0)]
abbrev yL:List aY := [.cells [.ptr 1 2], .cells [.int .i64, .int .i64, .str, .int .i64, .int .i64, .bool, .int .i64, .int .i64, .bool, .int .i64]]
def Fs (fn:mB R):jU R yK yL:=fun x y k=>fn (⟨y.2.1.1,y.2.1.2.1,y.2.1.2.2.1,y.2.1.2.2.2.1,y.2.1.2.2.2.2.1,y.2.1.2.2.2.2.2.1,y.2.1.2.2.2.2.2.2.1,y.2.1.2.2.2.2.2.2.2.1,(t8 y.2.1).1,(t8 y.2.1).2.1⟩:aq.State) (fun q0 q1=>k (.agg [.int .i64 q0.kind, .int .i64 q0.num.ao, .int .i64 q0.num.exp, .str q0.text, .sl .str q0.names .no, .sl .json q0.items .no]) [.cells [.ptr 1 2], .cells [.int .i64 q1.header, .int .i64 q1.dc, .str q1.bc, .int .i64 q1.order, .int .i64 q1.update, .bool q1.live, .int .i64 q1.node, .int .i64 q1.seq, .bool q1.bz, .int .i64 q1.accepted]])
def GH (fn:mB R):=aC yK yL (Fs fn)
section
variable (uP:G0 R)
def GI:List (lC R) := [(34,true,(W0 uP av))]
def yM (x1:aq.State) (k0:Json→aq.State→Option R):Option R :=
 uP x1.bc (fun y2=>k0 (⟨y2.kind,⟨y2.num.ao,y2.num.exp⟩,y2.text,y2.names,y2.items⟩:Json) x1)
theorem Qy:dD (R:=R) tt (GI uP) nK false Tryz.f176 yK yL (Fs (yM uP)):=fun x y k=>by kernel_rfl
end
theorem OZ:cr (R:=R) Tryz.prog (GI (R:=R) uP) := .c (ZG R) <| .n
def ef:mB R:=fun x1 k0=>yM uP x1 k0
theorem Ny (R:Type):jT Tryz.prog 176 (GH (ef (R:=R))):=bj TT mixed (OZ (R:=R)) rfl rfl rfl rfl bX (Qy uP)
/-! ### humpyard/state.number$1 -/
abbrev kW (R:Type):Type:=aq.State→(Json→aq.State→Option R)→Option R
abbrev vd:List cY := [.leaf (.ptr 0 0)]
abbrev ve:List aY := [.cells [.ptr 1 3], .cells [.int .i64, .int .i64, .str, .int .i64, .int .i64, .bool, .int .i64, .int .i64, .bool, .int .i64]]
def Cy (fn:kW R):jU R vd ve:=fun x y k=>fn (⟨y.2.1.1,y.2.1.2.1,y.2.1.2.2.1,y.2.1.2.2.2.1,y.2.1.2.2.2.2.1,y.2.1.2.2.2.2.2.1,y.2.1.2.2.2.2.2.2.1,y.2.1.2.2.2.2.2.2.2.1,(t8 y.2.1).1,(t8 y.2.1).2.1⟩:aq.State) (fun q0 q1=>k (.agg [.int .i64 q0.kind, .int .i64 q0.num.ao, .int .i64 q0.num.exp, .str q0.text, .sl .str q0.names .no, .sl .json q0.items .no]) [.cells [.ptr 1 3], .cells [.int .i64 q1.header, .int .i64 q1.dc, .str q1.bc, .int .i64 q1.order, .int .i64 q1.update, .bool q1.live, .int .i64 q1.node, .int .i64 q1.seq, .bool q1.bz, .int .i64 q1.accepted]])
def Dz (fn:kW R):=aC vd ve (Cy fn)
section
variable (bf:kr R)
def DA:List (lC R) := [(48,true,(pX bf av))]
def vf (x1:aq.State) (k0:Json→aq.State→Option R):Option R :=
 bf x1.order (fun y2=>k0 (⟨y2.kind,⟨y2.num.ao,y2.num.exp⟩,y2.text,y2.names,y2.items⟩:Json) x1)
theorem Nz:dD (R:=R) tt (DA bf) nK false Tryz.f174 vd ve (Cy (vf bf)):=fun x y k=>by kernel_rfl
end
theorem LO:cr (R:=R) Tryz.prog (DA (R:=R) bf) := .c (mv R) <| .n
def dq:kW R:=fun x1 k0=>vf bf x1 k0
theorem KE (R:Type):jT Tryz.prog 174 (Dz (dq (R:=R))):=bj TT mixed (LO (R:=R)) rfl rfl rfl rfl bX (Nz bf)
/-! ### humpyard/state.number$1 -/
abbrev kX (R:Type):Type:=aq.State→(Json→aq.State→Option R)→Option R
abbrev vg:List cY := [.leaf (.ptr 0 0)]
abbrev vh:List aY := [.cells [.ptr 1 4], .cells [.int .i64, .int .i64, .str, .int .i64, .int .i64, .bool, .int .i64, .int .i64, .bool, .int .i64]]
def Cz (fn:kX R):jU R vg vh:=fun x y k=>fn (⟨y.2.1.1,y.2.1.2.1,y.2.1.2.2.1,y.2.1.2.2.2.1,y.2.1.2.2.2.2.1,y.2.1.2.2.2.2.2.1,y.2.1.2.2.2.2.2.2.1,y.2.1.2.2.2.2.2.2.2.1,(t8 y.2.1).1,(t8 y.2.1).2.1⟩:aq.State) (fun q0 q1=>k (.agg [.int .i64 q0.kind, .int .i64 q0.num.ao, .int .i64 q0.num.exp, .str q0.text, .sl .str q0.names .no, .sl .json q0.items .no]) [.cells [.ptr 1 4], .cells [.int .i64 q1.header, .int .i64 q1.dc, .str q1.bc, .int .i64 q1.order, .int .i64 q1.update, .bool q1.live, .int .i64 q1.node, .int .i64 q1.seq, .bool q1.bz, .int .i64 q1.accepted]])
def DB (fn:kX R):=aC vg vh (Cz fn)
section
variable (bf:kr R)
def DC:List (lC R) := [(48,true,(pX bf av))]
def vi (x1:aq.State) (k0:Json→aq.State→Option R):Option R :=
 bf x1.update (fun y2=>k0 (⟨y2.kind,⟨y2.num.ao,y2.num.exp⟩,y2.text,y2.names,y2.items⟩:Json) x1)
theorem NA:dD (R:=R) tt (DC bf) nK false Tryz.f174 vg vh (Cz (vi bf)):=fun x y k=>by kernel_rfl
end
theorem LP:cr (R:=R) Tryz.prog (DC (R:=R) bf) := .c (mv R) <| .n
def dt:kX R:=fun x1 k0=>vi bf x1 k0
theorem KF (R:Type):jT Tryz.prog 174 (DB (dt (R:=R))):=bj TT mixed (LP (R:=R)) rfl rfl rfl rfl bX (NA bf)
/-! ### humpyard/state.flag$1 -/
abbrev mC (R:Type):Type:=aq.State→(Json→aq.State→Option R)→Option R
abbrev yN:List cY := [.leaf (.ptr 0 0)]
abbrev yO:List aY := [.cells [.ptr 1 5], .cells [.int .i64, .int .i64, .str, .int .i64, .int .i64, .bool, .int .i64, .int .i64, .bool, .int .i64]]
def Ft (fn:mC R):jU R yN yO:=fun x y k=>fn (⟨y.2.1.1,y.2.1.2.1,y.2.1.2.2.1,y.2.1.2.2.2.1,y.2.1.2.2.2.2.1,y.2.1.2.2.2.2.2.1,y.2.1.2.2.2.2.2.2.1,y.2.1.2.2.2.2.2.2.2.1,(t8 y.2.1).1,(t8 y.2.1).2.1⟩:aq.State) (fun q0 q1=>k (.agg [.int .i64 q0.kind, .int .i64 q0.num.ao, .int .i64 q0.num.exp, .str q0.text, .sl .str q0.names .no, .sl .json q0.items .no]) [.cells [.ptr 1 5], .cells [.int .i64 q1.header, .int .i64 q1.dc, .str q1.bc, .int .i64 q1.order, .int .i64 q1.update, .bool q1.live, .int .i64 q1.node, .int .i64 q1.seq, .bool q1.bz, .int .i64 q1.accepted]])
def GJ (fn:mC R):=aC yN yO (Ft fn)
section
variable (jn:BN R)
def GK:List (lC R) := [(99,true,(PH jn av))]
def yP (x1:aq.State) (k0:Json→aq.State→Option R):Option R :=
 jn x1.live (fun y2=>k0 (⟨y2.kind,⟨y2.num.ao,y2.num.exp⟩,y2.text,y2.names,y2.items⟩:Json) x1)
theorem Qz:dD (R:=R) tt (GK jn) nK false Tryz.f178 yN yO (Ft (yP jn)):=fun x y k=>by kernel_rfl
end
theorem O0:cr (R:=R) Tryz.prog (GK (R:=R) jn) := .c (PI R) <| .n
def eg:mC R:=fun x1 k0=>yP jn x1 k0
theorem NB (R:Type):jT Tryz.prog 178 (GJ (eg (R:=R))):=bj TT mixed (O0 (R:=R)) rfl rfl rfl rfl bX (Qz jn)
/-! ### humpyard/state.number$1 -/
abbrev kY (R:Type):Type:=aq.State→(Json→aq.State→Option R)→Option R
abbrev vj:List cY := [.leaf (.ptr 0 0)]
abbrev vk:List aY := [.cells [.ptr 1 6], .cells [.int .i64, .int .i64, .str, .int .i64, .int .i64, .bool, .int .i64, .int .i64, .bool, .int .i64]]
def CA (fn:kY R):jU R vj vk:=fun x y k=>fn (⟨y.2.1.1,y.2.1.2.1,y.2.1.2.2.1,y.2.1.2.2.2.1,y.2.1.2.2.2.2.1,y.2.1.2.2.2.2.2.1,y.2.1.2.2.2.2.2.2.1,y.2.1.2.2.2.2.2.2.2.1,(t8 y.2.1).1,(t8 y.2.1).2.1⟩:aq.State) (fun q0 q1=>k (.agg [.int .i64 q0.kind, .int .i64 q0.num.ao, .int .i64 q0.num.exp, .str q0.text, .sl .str q0.names .no, .sl .json q0.items .no]) [.cells [.ptr 1 6], .cells [.int .i64 q1.header, .int .i64 q1.dc, .str q1.bc, .int .i64 q1.order, .int .i64 q1.update, .bool q1.live, .int .i64 q1.node, .int .i64 q1.seq, .bool q1.bz, .int .i64 q1.accepted]])
def DE (fn:kY R):=aC vj vk (CA fn)
section
variable (bf:kr R)
def DF:List (lC R) := [(48,true,(pX bf av))]
def vl (x1:aq.State) (k0:Json→aq.State→Option R):Option R :=
 bf x1.node (fun y2=>k0 (⟨y2.kind,⟨y2.num.ao,y2.num.exp⟩,y2.text,y2.names,y2.items⟩:Json) x1)
theorem NC:dD (R:=R) tt (DF bf) nK false Tryz.f174 vj vk (CA (vl bf)):=fun x y k=>by kernel_rfl
end
theorem LQ:cr (R:=R) Tryz.prog (DF (R:=R) bf) := .c (mv R) <| .n
def du:kY R:=fun x1 k0=>vl bf x1 k0
theorem KG (R:Type):jT Tryz.prog 174 (DE (du (R:=R))):=bj TT mixed (LQ (R:=R)) rfl rfl rfl rfl bX (NC bf)
/-! ### humpyard/state.number$1 -/
abbrev kZ (R:Type):Type:=aq.State→(Json→aq.State→Option R)→Option R
abbrev vm:List cY := [.leaf (.ptr 0 0)]
abbrev vn:List aY := [.cells [.ptr 1 7], .cells [.int .i64, .int .i64, .str, .int .i64, .int .i64, .bool, .int .i64, .int .i64, .bool, .int .i64]]
def CB (fn:kZ R):jU R vm vn:=fun x y k=>fn (⟨y.2.1.1,y.2.1.2.1,y.2.1.2.2.1,y.2.1.2.2.2.1,y.2.1.2.2.2.2.1,y.2.1.2.2.2.2.2.1,y.2.1.2.2.2.2.2.2.1,y.2.1.2.2.2.2.2.2.2.1,(t8 y.2.1).1,(t8 y.2.1).2.1⟩:aq.State) (fun q0 q1=>k (.agg [.int .i64 q0.kind, .int .i64 q0.num.ao, .int .i64 q0.num.exp, .str q0.text, .sl .str q0.names .no, .sl .json q0.items .no]) [.cells [.ptr 1 7], .cells [.int .i64 q1.header, .int .i64 q1.dc, .str q1.bc, .int .i64 q1.order, .int .i64 q1.update, .bool q1.live, .int .i64 q1.node, .int .i64 q1.seq, .bool q1.bz, .int .i64 q1.accepted]])
def DG (fn:kZ R):=aC vm vn (CB fn)
section
variable (bf:kr R)
def DH:List (lC R) := [(48,true,(pX bf av))]
def vo (x1:aq.State) (k0:Json→aq.State→Option R):Option R :=
 bf x1.seq (fun y2=>k0 (⟨y2.kind,⟨y2.num.ao,y2.num.exp⟩,y2.text,y2.names,y2.items⟩:Json) x1)
theorem ND:dD (R:=R) tt (DH bf) nK false Tryz.f174 vm vn (CB (vo bf)):=fun x y k=>by kernel_rfl
end
theorem LR:cr (R:=R) Tryz.prog (DH (R:=R) bf) := .c (mv R) <| .n
def dv:kZ R:=fun x1 k0=>vo bf x1 k0
theorem KH (R:Type):jT Tryz.prog 174 (DG (dv (R:=R))):=bj TT mixed (LR (R:=R)) rfl rfl rfl rfl bX (ND bf)
/-! ### humpyard/state.flag$1 -/
abbrev mD (R:Type):Type:=aq.State→(Json→aq.State→Option R)→Option R
abbrev yQ:List cY := [.leaf (.ptr 0 0)]
abbrev yR:List aY := [.cells [.ptr 1 8], .cells [.int .i64, .int .i64, .str, .int .i64, .int .i64, .bool, .int .i64, .int .i64, .bool, .int .i64]]
def Fu (fn:mD R):jU R yQ yR:=fun x y k=>fn (⟨y.2.1.1,y.2.1.2.1,y.2.1.2.2.1,y.2.1.2.2.2.1,y.2.1.2.2.2.2.1,y.2.1.2.2.2.2.2.1,y.2.1.2.2.2.2.2.2.1,y.2.1.2.2.2.2.2.2.2.1,(t8 y.2.1).1,(t8 y.2.1).2.1⟩:aq.State) (fun q0 q1=>k (.agg [.int .i64 q0.kind, .int .i64 q0.num.ao, .int .i64 q0.num.exp, .str q0.text, .sl .str q0.names .no, .sl .json q0.items .no]) [.cells [.ptr 1 8], .cells [.int .i64 q1.header, .int .i64 q1.dc, .str q1.bc, .int .i64 q1.order, .int .i64 q1.update, .bool q1.live, .int .i64 q1.node, .int .i64 q1.seq, .bool q1.bz, .int .i64 q1.accepted]])
def GL (fn:mD R):=aC yQ yR (Fu fn)
section
variable (jn:BN R)
def GM:List (lC R) := [(99,true,(PH jn av))]
def yS (x1:aq.State) (k0:Json→aq.State→Option R):Option R :=
 jn x1.bz (fun y2=>k0 (⟨y2.kind,⟨y2.num.ao,y2.num.exp⟩,y2.text,y2.names,y2.items⟩:Json) x1)
theorem QA:dD (R:=R) tt (GM jn) nK false Tryz.f178 yQ yR (Fu (yS jn)):=fun x y k=>by kernel_rfl
end
theorem O1:cr (R:=R) Tryz.prog (GM (R:=R) jn) := .c (PI R) <| .n
def eh:mD R:=fun x1 k0=>yS jn x1 k0
theorem NF (R:Type):jT Tryz.prog 178 (GL (eh (R:=R))):=bj TT mixed (O1 (R:=R)) rfl rfl rfl rfl bX (QA jn)
/-! ### humpyard/state.number$1 -/
abbrev k6 (R:Type):Type:=aq.State→(Json→aq.State→Option R)→Option R
abbrev vp:List cY := [.leaf (.ptr 0 0)]
abbrev vq:List aY := [.cells [.ptr 1 9], .cells [.int .i64, .int .i64, .str, .int .i64, .int .i64, .bool, .int .i64, .int .i64, .bool, .int .i64]]
def CC (fn:k6 R):jU R vp vq:=fun x y k=>fn (⟨y.2.1.1,y.2.1.2.1,y.2.1.2.2.1,y.2.1.2.2.2.1,y.2.1.2.2.2.2.1,y.2.1.2.2.2.2.2.1,y.2.1.2.2.2.2.2.2.1,y.2.1.2.2.2.2.2.2.2.1,(t8 y.2.1).1,(t8 y.2.1).2.1⟩:aq.State) (fun q0 q1=>k (.agg [.int .i64 q0.kind, .int .i64 q0.num.ao, .int .i64 q0.num.exp, .str q0.text, .sl .str q0.names .no, .sl .json q0.items .no]) [.cells [.ptr 1 9], .cells [.int .i64 q1.header, .int .i64 q1.dc, .str q1.bc, .int .i64 q1.order, .int .i64 q1.update, .bool q1.live, .int .i64 q1.node, .int .i64 q1.seq, .bool q1.bz, .int .i64 q1.accepted]])
def DI (fn:k6 R):=aC vp vq (CC fn)
section
variable (bf:kr R)
def DJ:List (lC R) := [(48,true,(pX bf av))]
def vu (x1:aq.State) (k0:Json→aq.State→Option R):Option R :=
 bf x1.accepted (fun y2=>k0 (⟨y2.kind,⟨y2.num.ao,y2.num.exp⟩,y2.text,y2.names,y2.items⟩:Json) x1)
theorem NG:dD (R:=R) tt (DJ bf) nK false Tryz.f174 vp vq (CC (vu bf)):=fun x y k=>by kernel_rfl
end
theorem LS:cr (R:=R) Tryz.prog (DJ (R:=R) bf) := .c (mv R) <| .n
def dw:k6 R:=fun x1 k0=>vu bf x1 k0
theorem KI (R:Type):jT Tryz.prog 174 (DI (dw (R:=R))):=bj TT mixed (LS (R:=R)) rfl rfl rfl rfl bX (NG bf)
/-! ### humpyard/state.Lay -/
abbrev n0 (R:Type):Type:=aq.State→(ag→Int→Option R)→Option R
abbrev QB:List cY := [.agg [.int .i64, .int .i64, .str, .int .i64, .int .i64, .bool, .int .i64, .int .i64, .bool, .int .i64]]
abbrev QC:List aY := []
def Vc (fn:n0 R):jU R QB QC:=fun x y k=>fn (⟨x.1.1,x.1.2.1,x.1.2.2.1,x.1.2.2.2.1,x.1.2.2.2.2.1,x.1.2.2.2.2.2.1,x.1.2.2.2.2.2.2.1,x.1.2.2.2.2.2.2.2.1,(t8 x.1).1,(t8 x.1).2.1⟩:aq.State) (fun q0 q1=>k (.tuple [.str q0, .int .i64 q1]) [])
def w9 (fn:n0 R):=aC QB QC (Vc fn)
def QD (dK:uQ R) (dM:uW R) (bQ:nY R) (aE:fL R) (eg:mC R) (eh:mD R) (dn:kU R) (dp:kV R) (dq:kW R) (dt:kX R) (du:kY R) (dv:kZ R) (dw:k6 R) (ef:mB R):List (lC R) := [(132,false,(RO tt (dy []) (fun _=>none) false Tryz.f132 (bm Tryz.f132))),(130,false,(RO tt (dy []) (fun _=>none) false Tryz.f130 (bm Tryz.f130))),(131,false,(RO tt (dy []) (fun _=>none) false Tryz.f131 (bm Tryz.f131)))]
section
variable (dK:uQ R) (dM:uW R) (bQ:nY R) (aE:fL R) (eg:mC R) (eh:mD R) (dn:kU R) (dp:kV R) (dq:kW R) (dt:kX R) (du:kY R) (dv:kZ R) (dw:k6 R) (ef:mB R)
def Xk:List (lC R) := [(36,true,(MK dK av)),(35,true,(Nt dM av)),(28,true,(A9 bQ av)),(41,true,(rh aE av)),(178,false,(GL eh (GJ eg av))),(174,false,(DI dw (DG dv (DE du (DB dt (Dz dq (Dx dp (Dv dn av)))))))),(87,false,(RO tt (dy (QD dK dM bQ aE eg eh dn dp dq dt du dv dw ef)) (fun _=>none) false Tryz.f87 (bm Tryz.f87))),(176,false,(GH ef av))]
def QE (x1:aq.State) (k0:ag→Int→Option R):Option R :=
 aE x1 (fun y2=>bif (!y2)then (k0 ([]:ag) 1)else (dn x1 (fun y3 y4=>dp y4 (fun y5 y6=>ef y6 (fun y7 y8=>dq y8 (fun y9 od=>dt od (fun ug zj=>eg zj (fun FW Gm=>du Gm (fun Ej Ar=>dv Ar (fun K2 J9=>eh J9 (fun Pz Li=>dw Li (fun C6 Yr=>dK ([([104,101,97,100,101,114,73,100]:ag),([98,111,111,116]:ag),([115,101,114,105,97,108,78,117,109,98,101,114]:ag),([111,114,100,101,114,73,100]:ag),([111,114,100,101,114,85,112,100,97,116,101,73,100]:ag),([108,105,118,101]:ag),([108,97,115,116,78,111,100,101,73,100]:ag),([108,97,115,116,78,111,100,101,83,101,113,117,101,110,99,101,73,100]:ag),([100,114,105,118,105,110,103]:ag),([97,99,99,101,112,116,101,100]:ag)]:List ag) ([(⟨y3.kind,⟨y3.num.ao,y3.num.exp⟩,y3.text,y3.names,y3.items⟩:Json),(⟨y5.kind,⟨y5.num.ao,y5.num.exp⟩,y5.text,y5.names,y5.items⟩:Json),(⟨y7.kind,⟨y7.num.ao,y7.num.exp⟩,y7.text,y7.names,y7.items⟩:Json),(⟨y9.kind,⟨y9.num.ao,y9.num.exp⟩,y9.text,y9.names,y9.items⟩:Json),(⟨ug.kind,⟨ug.num.ao,ug.num.exp⟩,ug.text,ug.names,ug.items⟩:Json),(⟨FW.kind,⟨FW.num.ao,FW.num.exp⟩,FW.text,FW.names,FW.items⟩:Json),(⟨Ej.kind,⟨Ej.num.ao,Ej.num.exp⟩,Ej.text,Ej.names,Ej.items⟩:Json),(⟨K2.kind,⟨K2.num.ao,K2.num.exp⟩,K2.text,K2.names,K2.items⟩:Json),(⟨Pz.kind,⟨Pz.num.ao,Pz.num.exp⟩,Pz.text,Pz.names,Pz.items⟩:Json),(⟨C6.kind,⟨C6.num.ao,C6.num.exp⟩,C6.text,C6.names,C6.items⟩:Json)]:List Json) (fun Sn=>dM (⟨Sn.kind,⟨Sn.num.ao,Sn.num.exp⟩,Sn.text,Sn.names,Sn.items⟩:Json) (fun y24=>bQ y24 (fun AY=>k0 AY 0)))))))))))))))
theorem state_Lay_ok:dD (R:=R) tt (Xk dK dM bQ aE eg eh dn dp dq dt du dv dw ef) nK false Tryz.f39 QB QC (Vc (QE dK dM bQ aE eg eh dn dp dq dt du dv dw ef)):=fun x y k=>by kernel_rfl
end
theorem Wo:cr (R:=R) Tryz.prog (QD (R:=R) dK dM bQ aE eg eh dn dp dq dt du dv dw ef) := .f (oF TT mixed .n false rfl rfl rfl rfl) rfl <| .f (oF TT mixed .n false rfl rfl rfl rfl) rfl <| .f (oF TT mixed .n false rfl rfl rfl rfl) rfl <| .n
theorem state_Lay_EOk:cr (R:=R) Tryz.prog (Xk (R:=R) dK dM bQ aE eg eh dn dp dq dt du dv dw ef) := .c (Oh R) <| .c (Oy R) <| .c (w8 R) <| .c (oy R) <| .f (NF R _ (NB R _ (fA _))) rfl <| .f (KI R _ (KH R _ (KG R _ (KF R _ (KE R _ (KD R _ (KC R _ (fA _)))))))) rfl <| .f (oF TT mixed (Wo (R:=R)) false rfl rfl rfl rfl) rfl <| .d (Ny R) rfl <| .n
def bl:n0 R:=fun x1 k0=>QE dK dM bQ aE eg eh dn dp dq dt du dv dw ef x1 k0
theorem sW (R:Type):jT Tryz.prog 39 (w9 (bl (R:=R))):=bj TT mixed (state_Lay_EOk (R:=R)) rfl rfl rfl rfl bX (state_Lay_ok dK dM bQ aE eg eh dn dp dq dt du dv dw ef)
/-! ### humpyard/state.number$2 -/
abbrev fM (R:Type):Type:=Json→ag→aq.State→(Bool→ag→aq.State→Option R)→Option R
abbrev vv:List cY := [.agg [.int .i64, .int .i64, .int .i64, .str, .sl .str, .sl .json], .leaf (.ptr 0 0), .leaf (.ptr 1 0)]
abbrev vw:List aY := [.cells [.str], .cells [.ptr 2 0], .cells [.int .i64, .int .i64, .str, .int .i64, .int .i64, .bool, .int .i64, .int .i64, .bool, .int .i64]]
def CD (fn:fM R):jU R vv vw:=fun x y k=>fn (⟨x.1.1,⟨x.1.2.1,x.1.2.2.1⟩,x.1.2.2.2.1,x.1.2.2.2.2.1,x.1.2.2.2.2.2.1⟩:Json) y.1.1 (⟨y.2.2.1.1,y.2.2.1.2.1,y.2.2.1.2.2.1,y.2.2.1.2.2.2.1,y.2.2.1.2.2.2.2.1,y.2.2.1.2.2.2.2.2.1,y.2.2.1.2.2.2.2.2.2.1,y.2.2.1.2.2.2.2.2.2.2.1,(t8 y.2.2.1).1,(t8 y.2.2.1).2.1⟩:aq.State) (fun q0 q1 q2=>k (.bool q0) [.cells [.str q1], .cells [.ptr 2 0], .cells [.int .i64 q2.header, .int .i64 q2.dc, .str q2.bc, .int .i64 q2.order, .int .i64 q2.update, .bool q2.live, .int .i64 q2.node, .int .i64 q2.seq, .bool q2.bz, .int .i64 q2.accepted]])
def DK (fn:fM R):=aC vv vw (CD fn)
section
variable (bP:ml R)
def DL:List (lC R) := [(110,true,(tq bP av))]
def o9 (x1:Json) (x2:ag) (x3:aq.State) (k0:Bool→ag→aq.State→Option R):Option R :=
 bP (⟨x1.kind,⟨x1.num.ao,x1.num.exp⟩,x1.text,x1.names,x1.items⟩:Json) x2 (fun y4 y5=>k0 y5 x2 (⟨y4,x3.dc,x3.bc,x3.order,x3.update,x3.live,x3.node,x3.seq,x3.bz,x3.accepted⟩:aq.State))
theorem NH:dD (R:=R) tt (DL bP) nK false Tryz.f175 vv vw (CD (o9 bP)):=fun x y k=>by kernel_rfl
end
theorem LU:cr (R:=R) Tryz.prog (DL (R:=R) bP) := .c (oV R) <| .n
def bB:fM R:=fun x1 x2 x3 k0=>o9 bP x1 x2 x3 k0
theorem KJ (R:Type):jT Tryz.prog 175 (DK (bB (R:=R))):=bj TT mixed (LU (R:=R)) rfl rfl rfl rfl bX (NH bP)
/-! ### humpyard/state.number$2 -/
abbrev fN (R:Type):Type:=Json→ag→aq.State→(Bool→ag→aq.State→Option R)→Option R
abbrev vy:List cY := [.agg [.int .i64, .int .i64, .int .i64, .str, .sl .str, .sl .json], .leaf (.ptr 0 0), .leaf (.ptr 1 0)]
abbrev vz:List aY := [.cells [.str], .cells [.ptr 2 1], .cells [.int .i64, .int .i64, .str, .int .i64, .int .i64, .bool, .int .i64, .int .i64, .bool, .int .i64]]
def CE (fn:fN R):jU R vy vz:=fun x y k=>fn (⟨x.1.1,⟨x.1.2.1,x.1.2.2.1⟩,x.1.2.2.2.1,x.1.2.2.2.2.1,x.1.2.2.2.2.2.1⟩:Json) y.1.1 (⟨y.2.2.1.1,y.2.2.1.2.1,y.2.2.1.2.2.1,y.2.2.1.2.2.2.1,y.2.2.1.2.2.2.2.1,y.2.2.1.2.2.2.2.2.1,y.2.2.1.2.2.2.2.2.2.1,y.2.2.1.2.2.2.2.2.2.2.1,(t8 y.2.2.1).1,(t8 y.2.2.1).2.1⟩:aq.State) (fun q0 q1 q2=>k (.bool q0) [.cells [.str q1], .cells [.ptr 2 1], .cells [.int .i64 q2.header, .int .i64 q2.dc, .str q2.bc, .int .i64 q2.order, .int .i64 q2.update, .bool q2.live, .int .i64 q2.node, .int .i64 q2.seq, .bool q2.bz, .int .i64 q2.accepted]])
def DM (fn:fN R):=aC vy vz (CE fn)
section
variable (bP:ml R)
def DN:List (lC R) := [(110,true,(tq bP av))]
def pa (x1:Json) (x2:ag) (x3:aq.State) (k0:Bool→ag→aq.State→Option R):Option R :=
 bP (⟨x1.kind,⟨x1.num.ao,x1.num.exp⟩,x1.text,x1.names,x1.items⟩:Json) x2 (fun y4 y5=>k0 y5 x2 (⟨x3.header,y4,x3.bc,x3.order,x3.update,x3.live,x3.node,x3.seq,x3.bz,x3.accepted⟩:aq.State))
theorem NI:dD (R:=R) tt (DN bP) nK false Tryz.f175 vy vz (CE (pa bP)):=fun x y k=>by kernel_rfl
end
theorem LV:cr (R:=R) Tryz.prog (DN (R:=R) bP) := .c (oV R) <| .n
def bC:fN R:=fun x1 x2 x3 k0=>pa bP x1 x2 x3 k0
theorem KK (R:Type):jT Tryz.prog 175 (DM (bC (R:=R))):=bj TT mixed (LV (R:=R)) rfl rfl rfl rfl bX (NI bP)
/-! ### humpyard/state.text$2 -/
abbrev gI (R:Type):Type:=Json→ag→aq.State→(Bool→ag→aq.State→Option R)→Option R
abbrev yT:List cY := [.agg [.int .i64, .int .i64, .int .i64, .str, .sl .str, .sl .json], .leaf (.ptr 0 0), .leaf (.ptr 1 0)]
abbrev yU:List aY := [.cells [.str], .cells [.ptr 2 2], .cells [.int .i64, .int .i64, .str, .int .i64, .int .i64, .bool, .int .i64, .int .i64, .bool, .int .i64]]
def Fv (fn:gI R):jU R yT yU:=fun x y k=>fn (⟨x.1.1,⟨x.1.2.1,x.1.2.2.1⟩,x.1.2.2.2.1,x.1.2.2.2.2.1,x.1.2.2.2.2.2.1⟩:Json) y.1.1 (⟨y.2.2.1.1,y.2.2.1.2.1,y.2.2.1.2.2.1,y.2.2.1.2.2.2.1,y.2.2.1.2.2.2.2.1,y.2.2.1.2.2.2.2.2.1,y.2.2.1.2.2.2.2.2.2.1,y.2.2.1.2.2.2.2.2.2.2.1,(t8 y.2.2.1).1,(t8 y.2.2.1).2.1⟩:aq.State) (fun q0 q1 q2=>k (.bool q0) [.cells [.str q1], .cells [.ptr 2 2], .cells [.int .i64 q2.header, .int .i64 q2.dc, .str q2.bc, .int .i64 q2.order, .int .i64 q2.update, .bool q2.live, .int .i64 q2.node, .int .i64 q2.seq, .bool q2.bz, .int .i64 q2.accepted]])
def GN (fn:gI R):=aC yT yU (Fv fn)
section
variable (oU:EP R)
def GO:List (lC R) := [(68,true,(UU oU av))]
def r4 (x1:Json) (x2:ag) (x3:aq.State) (k0:Bool→ag→aq.State→Option R):Option R :=
 oU (⟨x1.kind,⟨x1.num.ao,x1.num.exp⟩,x1.text,x1.names,x1.items⟩:Json) x2 (fun y4 y5=>k0 y5 x2 (⟨x3.header,x3.dc,y4,x3.order,x3.update,x3.live,x3.node,x3.seq,x3.bz,x3.accepted⟩:aq.State))
theorem QF:dD (R:=R) tt (GO oU) nK false Tryz.f177 yT yU (Fv (r4 oU)):=fun x y k=>by kernel_rfl
end
theorem O2:cr (R:=R) Tryz.prog (GO (R:=R) oU) := .c (XQ R) <| .n
def bY:gI R:=fun x1 x2 x3 k0=>r4 oU x1 x2 x3 k0
theorem NJ (R:Type):jT Tryz.prog 177 (GN (bY (R:=R))):=bj TT mixed (O2 (R:=R)) rfl rfl rfl rfl bX (QF oU)
end Go.Proofs.YtidfokedcnhahaaGreatDoor
/-
 Functions of the program as pure Lean functions, and the ties; printed by wip/tools/emit.py.
-/
set_option maxRecDepth 100000
namespace Go.Proofs.YtidfokedcnhahaaGreatDoor
open Go Go.aq
variable {R:Type}
/-! ### humpyard/state.number$2 -/
abbrev fO (R:Type):Type:=Json→ag→aq.State→(Bool→ag→aq.State→Option R)→Option R
abbrev vA:List cY := [.agg [.int .i64, .int .i64, .int .i64, .str, .sl .str, .sl .json], .leaf (.ptr 0 0), .leaf (.ptr 1 0)]
abbrev vB:List aY := [.cells [.str], .cells [.ptr 2 3], .cells [.int .i64, .int .i64, .str, .int .i64, .int .i64, .bool, .int .i64, .int .i64, .bool, .int .i64]]
def CF (fn:fO R):jU R vA vB:=fun x y k=>fn (⟨x.1.1,⟨x.1.2.1,x.1.2.2.1⟩,x.1.2.2.2.1,x.1.2.2.2.2.1,x.1.2.2.2.2.2.1⟩:Json) y.1.1 (⟨y.2.2.1.1,y.2.2.1.2.1,y.2.2.1.2.2.1,y.2.2.1.2.2.2.1,y.2.2.1.2.2.2.2.1,y.2.2.1.2.2.2.2.2.1,y.2.2.1.2.2.2.2.2.2.1,y.2.2.1.2.2.2.2.2.2.2.1,(t8 y.2.2.1).1,(t8 y.2.2.1).2.1⟩:aq.State) (fun q0 q1 q2=>k (.bool q0) [.cells [.str q1], .cells [.ptr 2 3], .cells [.int .i64 q2.header, .int .i64 q2.dc, .str q2.bc, .int .i64 q2.order, .int .i64 q2.update, .bool q2.live, .int .i64 q2.node, .int .i64 q2.seq, .bool q2.bz, .int .i64 q2.accepted]])
def DO (fn:fO R):=aC vA vB (CF fn)
section
variable (bP:ml R)
def DP:List (lC R) := [(110,true,(tq bP av))]
def pb (x1:Json) (x2:ag) (x3:aq.State) (k0:Bool→ag→aq.State→Option R):Option R :=
 bP (⟨x1.kind,⟨x1.num.ao,x1.num.exp⟩,x1.text,x1.names,x1.items⟩:Json) x2 (fun y4 y5=>k0 y5 x2 (⟨x3.header,x3.dc,x3.bc,y4,x3.update,x3.live,x3.node,x3.seq,x3.bz,x3.accepted⟩:aq.State))
theorem NK:dD (R:=R) tt (DP bP) nK false Tryz.f175 vA vB (CF (pb bP)):=fun x y k=>by kernel_rfl
end
theorem LW:cr (R:=R) Tryz.prog (DP (R:=R) bP) := .c (oV R) <| .n
def bD:fO R:=fun x1 x2 x3 k0=>pb bP x1 x2 x3 k0
theorem KL (R:Type):jT Tryz.prog 175 (DO (bD (R:=R))):=bj TT mixed (LW (R:=R)) rfl rfl rfl rfl bX (NK bP)
/-! ### humpyard/state.number$2 -/
abbrev fP (R:Type):Type:=Json→ag→aq.State→(Bool→ag→aq.State→Option R)→Option R
abbrev vC:List cY := [.agg [.int .i64, .int .i64, .int .i64, .str, .sl .str, .sl .json], .leaf (.ptr 0 0), .leaf (.ptr 1 0)]
abbrev vD:List aY := [.cells [.str], .cells [.ptr 2 4], .cells [.int .i64, .int .i64, .str, .int .i64, .int .i64, .bool, .int .i64, .int .i64, .bool, .int .i64]]
def CG (fn:fP R):jU R vC vD:=fun x y k=>fn (⟨x.1.1,⟨x.1.2.1,x.1.2.2.1⟩,x.1.2.2.2.1,x.1.2.2.2.2.1,x.1.2.2.2.2.2.1⟩:Json) y.1.1 (⟨y.2.2.1.1,y.2.2.1.2.1,y.2.2.1.2.2.1,y.2.2.1.2.2.2.1,y.2.2.1.2.2.2.2.1,y.2.2.1.2.2.2.2.2.1,y.2.2.1.2.2.2.2.2.2.1,y.2.2.1.2.2.2.2.2.2.2.1,(t8 y.2.2.1).1,(t8 y.2.2.1).2.1⟩:aq.State) (fun q0 q1 q2=>k (.bool q0) [.cells [.str q1], .cells [.ptr 2 4], .cells [.int .i64 q2.header, .int .i64 q2.dc, .str q2.bc, .int .i64 q2.order, .int .i64 q2.update, .bool q2.live, .int .i64 q2.node, .int .i64 q2.seq, .bool q2.bz, .int .i64 q2.accepted]])
def DQ (fn:fP R):=aC vC vD (CG fn)
section
variable (bP:ml R)
def DR:List (lC R) := [(110,true,(tq bP av))]
def pc (x1:Json) (x2:ag) (x3:aq.State) (k0:Bool→ag→aq.State→Option R):Option R :=
 bP (⟨x1.kind,⟨x1.num.ao,x1.num.exp⟩,x1.text,x1.names,x1.items⟩:Json) x2 (fun y4 y5=>k0 y5 x2 (⟨x3.header,x3.dc,x3.bc,x3.order,y4,x3.live,x3.node,x3.seq,x3.bz,x3.accepted⟩:aq.State))
theorem NL:dD (R:=R) tt (DR bP) nK false Tryz.f175 vC vD (CG (pc bP)):=fun x y k=>by kernel_rfl
end
theorem LX:cr (R:=R) Tryz.prog (DR (R:=R) bP) := .c (oV R) <| .n
def bE:fP R:=fun x1 x2 x3 k0=>pc bP x1 x2 x3 k0
theorem KM (R:Type):jT Tryz.prog 175 (DQ (bE (R:=R))):=bj TT mixed (LX (R:=R)) rfl rfl rfl rfl bX (NL bP)
/-! ### humpyard/state.flag$2 -/
abbrev gJ (R:Type):Type:=Json→ag→aq.State→(Bool→ag→aq.State→Option R)→Option R
abbrev yV:List cY := [.agg [.int .i64, .int .i64, .int .i64, .str, .sl .str, .sl .json], .leaf (.ptr 0 0), .leaf (.ptr 1 0)]
abbrev yW:List aY := [.cells [.str], .cells [.ptr 2 5], .cells [.int .i64, .int .i64, .str, .int .i64, .int .i64, .bool, .int .i64, .int .i64, .bool, .int .i64]]
def Fw (fn:gJ R):jU R yV yW:=fun x y k=>fn (⟨x.1.1,⟨x.1.2.1,x.1.2.2.1⟩,x.1.2.2.2.1,x.1.2.2.2.2.1,x.1.2.2.2.2.2.1⟩:Json) y.1.1 (⟨y.2.2.1.1,y.2.2.1.2.1,y.2.2.1.2.2.1,y.2.2.1.2.2.2.1,y.2.2.1.2.2.2.2.1,y.2.2.1.2.2.2.2.2.1,y.2.2.1.2.2.2.2.2.2.1,y.2.2.1.2.2.2.2.2.2.2.1,(t8 y.2.2.1).1,(t8 y.2.2.1).2.1⟩:aq.State) (fun q0 q1 q2=>k (.bool q0) [.cells [.str q1], .cells [.ptr 2 5], .cells [.int .i64 q2.header, .int .i64 q2.dc, .str q2.bc, .int .i64 q2.order, .int .i64 q2.update, .bool q2.live, .int .i64 q2.node, .int .i64 q2.seq, .bool q2.bz, .int .i64 q2.accepted]])
def GP (fn:gJ R):=aC yV yW (Fw fn)
section
variable (gQ:zR R)
def GQ:List (lC R) := [(112,true,(Nh gQ av))]
def r5 (x1:Json) (x2:ag) (x3:aq.State) (k0:Bool→ag→aq.State→Option R):Option R :=
 gQ (⟨x1.kind,⟨x1.num.ao,x1.num.exp⟩,x1.text,x1.names,x1.items⟩:Json) x2 (fun y4 y5=>k0 y5 x2 (⟨x3.header,x3.dc,x3.bc,x3.order,x3.update,y4,x3.node,x3.seq,x3.bz,x3.accepted⟩:aq.State))
theorem QG:dD (R:=R) tt (GQ gQ) nK false Tryz.f179 yV yW (Fw (r5 gQ)):=fun x y k=>by kernel_rfl
end
theorem O3:cr (R:=R) Tryz.prog (GQ (R:=R) gQ) := .c (Ot R) <| .n
def bZ:gJ R:=fun x1 x2 x3 k0=>r5 gQ x1 x2 x3 k0
theorem NM (R:Type):jT Tryz.prog 179 (GP (bZ (R:=R))):=bj TT mixed (O3 (R:=R)) rfl rfl rfl rfl bX (QG gQ)
/-! ### humpyard/state.number$2 -/
abbrev fQ (R:Type):Type:=Json→ag→aq.State→(Bool→ag→aq.State→Option R)→Option R
abbrev vE:List cY := [.agg [.int .i64, .int .i64, .int .i64, .str, .sl .str, .sl .json], .leaf (.ptr 0 0), .leaf (.ptr 1 0)]
abbrev vF:List aY := [.cells [.str], .cells [.ptr 2 6], .cells [.int .i64, .int .i64, .str, .int .i64, .int .i64, .bool, .int .i64, .int .i64, .bool, .int .i64]]
def CH (fn:fQ R):jU R vE vF:=fun x y k=>fn (⟨x.1.1,⟨x.1.2.1,x.1.2.2.1⟩,x.1.2.2.2.1,x.1.2.2.2.2.1,x.1.2.2.2.2.2.1⟩:Json) y.1.1 (⟨y.2.2.1.1,y.2.2.1.2.1,y.2.2.1.2.2.1,y.2.2.1.2.2.2.1,y.2.2.1.2.2.2.2.1,y.2.2.1.2.2.2.2.2.1,y.2.2.1.2.2.2.2.2.2.1,y.2.2.1.2.2.2.2.2.2.2.1,(t8 y.2.2.1).1,(t8 y.2.2.1).2.1⟩:aq.State) (fun q0 q1 q2=>k (.bool q0) [.cells [.str q1], .cells [.ptr 2 6], .cells [.int .i64 q2.header, .int .i64 q2.dc, .str q2.bc, .int .i64 q2.order, .int .i64 q2.update, .bool q2.live, .int .i64 q2.node, .int .i64 q2.seq, .bool q2.bz, .int .i64 q2.accepted]])
def DS (fn:fQ R):=aC vE vF (CH fn)
section
variable (bP:ml R)
def DT:List (lC R) := [(110,true,(tq bP av))]
def pd (x1:Json) (x2:ag) (x3:aq.State) (k0:Bool→ag→aq.State→Option R):Option R :=
 bP (⟨x1.kind,⟨x1.num.ao,x1.num.exp⟩,x1.text,x1.names,x1.items⟩:Json) x2 (fun y4 y5=>k0 y5 x2 (⟨x3.header,x3.dc,x3.bc,x3.order,x3.update,x3.live,y4,x3.seq,x3.bz,x3.accepted⟩:aq.State))
theorem NN:dD (R:=R) tt (DT bP) nK false Tryz.f175 vE vF (CH (pd bP)):=fun x y k=>by kernel_rfl
end
theorem LY:cr (R:=R) Tryz.prog (DT (R:=R) bP) := .c (oV R) <| .n
def bF:fQ R:=fun x1 x2 x3 k0=>pd bP x1 x2 x3 k0
theorem KN (R:Type):jT Tryz.prog 175 (DS (bF (R:=R))):=bj TT mixed (LY (R:=R)) rfl rfl rfl rfl bX (NN bP)
/-! ### humpyard/state.number$2 -/
abbrev fR (R:Type):Type:=Json→ag→aq.State→(Bool→ag→aq.State→Option R)→Option R
abbrev vG:List cY := [.agg [.int .i64, .int .i64, .int .i64, .str, .sl .str, .sl .json], .leaf (.ptr 0 0), .leaf (.ptr 1 0)]
abbrev vH:List aY := [.cells [.str], .cells [.ptr 2 7], .cells [.int .i64, .int .i64, .str, .int .i64, .int .i64, .bool, .int .i64, .int .i64, .bool, .int .i64]]
def CI (fn:fR R):jU R vG vH:=fun x y k=>fn (⟨x.1.1,⟨x.1.2.1,x.1.2.2.1⟩,x.1.2.2.2.1,x.1.2.2.2.2.1,x.1.2.2.2.2.2.1⟩:Json) y.1.1 (⟨y.2.2.1.1,y.2.2.1.2.1,y.2.2.1.2.2.1,y.2.2.1.2.2.2.1,y.2.2.1.2.2.2.2.1,y.2.2.1.2.2.2.2.2.1,y.2.2.1.2.2.2.2.2.2.1,y.2.2.1.2.2.2.2.2.2.2.1,(t8 y.2.2.1).1,(t8 y.2.2.1).2.1⟩:aq.State) (fun q0 q1 q2=>k (.bool q0) [.cells [.str q1], .cells [.ptr 2 7], .cells [.int .i64 q2.header, .int .i64 q2.dc, .str q2.bc, .int .i64 q2.order, .int .i64 q2.update, .bool q2.live, .int .i64 q2.node, .int .i64 q2.seq, .bool q2.bz, .int .i64 q2.accepted]])
def DU (fn:fR R):=aC vG vH (CI fn)
section
variable (bP:ml R)
def DV:List (lC R) := [(110,true,(tq bP av))]
def pe (x1:Json) (x2:ag) (x3:aq.State) (k0:Bool→ag→aq.State→Option R):Option R :=
 bP (⟨x1.kind,⟨x1.num.ao,x1.num.exp⟩,x1.text,x1.names,x1.items⟩:Json) x2 (fun y4 y5=>k0 y5 x2 (⟨x3.header,x3.dc,x3.bc,x3.order,x3.update,x3.live,x3.node,y4,x3.bz,x3.accepted⟩:aq.State))
theorem NO:dD (R:=R) tt (DV bP) nK false Tryz.f175 vG vH (CI (pe bP)):=fun x y k=>by kernel_rfl
end
theorem LZ:cr (R:=R) Tryz.prog (DV (R:=R) bP) := .c (oV R) <| .n
def bG:fR R:=fun x1 x2 x3 k0=>pe bP x1 x2 x3 k0
theorem KO (R:Type):jT Tryz.prog 175 (DU (bG (R:=R))):=bj TT mixed (LZ (R:=R)) rfl rfl rfl rfl bX (NO bP)
/-! ### humpyard/state.flag$2 -/
abbrev gK (R:Type):Type:=Json→ag→aq.State→(Bool→ag→aq.State→Option R)→Option R
abbrev yX:List cY := [.agg [.int .i64, .int .i64, .int .i64, .str, .sl .str, .sl .json], .leaf (.ptr 0 0), .leaf (.ptr 1 0)]
abbrev yY:List aY := [.cells [.str], .cells [.ptr 2 8], .cells [.int .i64, .int .i64, .str, .int .i64, .int .i64, .bool, .int .i64, .int .i64, .bool, .int .i64]]
def Fx (fn:gK R):jU R yX yY:=fun x y k=>fn (⟨x.1.1,⟨x.1.2.1,x.1.2.2.1⟩,x.1.2.2.2.1,x.1.2.2.2.2.1,x.1.2.2.2.2.2.1⟩:Json) y.1.1 (⟨y.2.2.1.1,y.2.2.1.2.1,y.2.2.1.2.2.1,y.2.2.1.2.2.2.1,y.2.2.1.2.2.2.2.1,y.2.2.1.2.2.2.2.2.1,y.2.2.1.2.2.2.2.2.2.1,y.2.2.1.2.2.2.2.2.2.2.1,(t8 y.2.2.1).1,(t8 y.2.2.1).2.1⟩:aq.State) (fun q0 q1 q2=>k (.bool q0) [.cells [.str q1], .cells [.ptr 2 8], .cells [.int .i64 q2.header, .int .i64 q2.dc, .str q2.bc, .int .i64 q2.order, .int .i64 q2.update, .bool q2.live, .int .i64 q2.node, .int .i64 q2.seq, .bool q2.bz, .int .i64 q2.accepted]])
def GR (fn:gK R):=aC yX yY (Fx fn)
section
variable (gQ:zR R)
def GS:List (lC R) := [(112,true,(Nh gQ av))]
def r6 (x1:Json) (x2:ag) (x3:aq.State) (k0:Bool→ag→aq.State→Option R):Option R :=
 gQ (⟨x1.kind,⟨x1.num.ao,x1.num.exp⟩,x1.text,x1.names,x1.items⟩:Json) x2 (fun y4 y5=>k0 y5 x2 (⟨x3.header,x3.dc,x3.bc,x3.order,x3.update,x3.live,x3.node,x3.seq,y4,x3.accepted⟩:aq.State))
theorem QH:dD (R:=R) tt (GS gQ) nK false Tryz.f179 yX yY (Fx (r6 gQ)):=fun x y k=>by kernel_rfl
end
theorem O4:cr (R:=R) Tryz.prog (GS (R:=R) gQ) := .c (Ot R) <| .n
def ca:gK R:=fun x1 x2 x3 k0=>r6 gQ x1 x2 x3 k0
theorem NP (R:Type):jT Tryz.prog 179 (GR (ca (R:=R))):=bj TT mixed (O4 (R:=R)) rfl rfl rfl rfl bX (QH gQ)
/-! ### humpyard/state.number$2 -/
abbrev fS (R:Type):Type:=Json→ag→aq.State→(Bool→ag→aq.State→Option R)→Option R
abbrev vI:List cY := [.agg [.int .i64, .int .i64, .int .i64, .str, .sl .str, .sl .json], .leaf (.ptr 0 0), .leaf (.ptr 1 0)]
abbrev vJ:List aY := [.cells [.str], .cells [.ptr 2 9], .cells [.int .i64, .int .i64, .str, .int .i64, .int .i64, .bool, .int .i64, .int .i64, .bool, .int .i64]]
def CJ (fn:fS R):jU R vI vJ:=fun x y k=>fn (⟨x.1.1,⟨x.1.2.1,x.1.2.2.1⟩,x.1.2.2.2.1,x.1.2.2.2.2.1,x.1.2.2.2.2.2.1⟩:Json) y.1.1 (⟨y.2.2.1.1,y.2.2.1.2.1,y.2.2.1.2.2.1,y.2.2.1.2.2.2.1,y.2.2.1.2.2.2.2.1,y.2.2.1.2.2.2.2.2.1,y.2.2.1.2.2.2.2.2.2.1,y.2.2.1.2.2.2.2.2.2.2.1,(t8 y.2.2.1).1,(t8 y.2.2.1).2.1⟩:aq.State) (fun q0 q1 q2=>k (.bool q0) [.cells [.str q1], .cells [.ptr 2 9], .cells [.int .i64 q2.header, .int .i64 q2.dc, .str q2.bc, .int .i64 q2.order, .int .i64 q2.update, .bool q2.live, .int .i64 q2.node, .int .i64 q2.seq, .bool q2.bz, .int .i64 q2.accepted]])
def DW (fn:fS R):=aC vI vJ (CJ fn)
section
variable (bP:ml R)
def DX:List (lC R) := [(110,true,(tq bP av))]
def pf (x1:Json) (x2:ag) (x3:aq.State) (k0:Bool→ag→aq.State→Option R):Option R :=
 bP (⟨x1.kind,⟨x1.num.ao,x1.num.exp⟩,x1.text,x1.names,x1.items⟩:Json) x2 (fun y4 y5=>k0 y5 x2 (⟨x3.header,x3.dc,x3.bc,x3.order,x3.update,x3.live,x3.node,x3.seq,x3.bz,y4⟩:aq.State))
theorem NQ:dD (R:=R) tt (DX bP) nK false Tryz.f175 vI vJ (CJ (pf bP)):=fun x y k=>by kernel_rfl
end
theorem L0:cr (R:=R) Tryz.prog (DX (R:=R) bP) := .c (oV R) <| .n
def bH:fS R:=fun x1 x2 x3 k0=>pf bP x1 x2 x3 k0
theorem KP (R:Type):jT Tryz.prog 175 (DW (bH (R:=R))):=bj TT mixed (L0 (R:=R)) rfl rfl rfl rfl bX (NQ bP)
/-! ### humpyard/state.Take -/
abbrev oo (R:Type):Type:=ag→(aq.State→Int→Option R)→Option R
abbrev NR:List cY := [.leaf (.str)]
abbrev NS:List aY := []
def SK (fn:oo R):jU R NR NS:=fun x y k=>fn x.1 (fun q0 q1=>k (.tuple [.agg [.int .i64 q0.header, .int .i64 q0.dc, .str q0.bc, .int .i64 q0.order, .int .i64 q0.update, .bool q0.live, .int .i64 q0.node, .int .i64 q0.seq, .bool q0.bz, .int .i64 q0.accepted], .int .i64 q1]) [])
def xD (fn:oo R):=aC NR NS (SK fn)
def OD (cI:mi R) (db:nZ R) (aE:fL R) (bZ:gJ R) (ca:gK R) (bB:fM R) (bC:fN R) (bD:fO R) (bE:fP R) (bF:fQ R) (bG:fR R) (bH:fS R) (bY:gI R):List (lC R) := [(132,false,(RO tt (dy []) (fun _=>none) false Tryz.f132 (bm Tryz.f132))),(130,false,(RO tt (dy []) (fun _=>none) false Tryz.f130 (bm Tryz.f130))),(131,false,(RO tt (dy []) (fun _=>none) false Tryz.f131 (bm Tryz.f131)))]
def OE (cI:mi R) (db:nZ R) (aE:fL R) (bZ:gJ R) (ca:gK R) (bB:fM R) (bC:fN R) (bD:fO R) (bE:fP R) (bF:fQ R) (bG:fR R) (bH:fS R) (bY:gI R):List (lC R) := [(179,false,(GR ca (GP bZ av))),(175,false,(DW bH (DU bG (DS bF (DQ bE (DO bD (DM bC (DK bB av)))))))),(177,false,(GN bY av))]
def OF (cI:mi R) (db:nZ R) (aE:fL R) (bZ:gJ R) (ca:gK R) (bB:fM R) (bC:fN R) (bD:fO R) (bE:fP R) (bF:fQ R) (bG:fR R) (bH:fS R) (bY:gI R):List (lC R) := [(95,false,(RO tt (dy (OE cI db aE bZ ca bB bC bD bE bF bG bH bY)) (fun _=>none) false Tryz.f95 (bm Tryz.f95)))]
def OG (cI:mi R) (db:nZ R) (aE:fL R) (bZ:gJ R) (ca:gK R) (bB:fM R) (bC:fN R) (bD:fO R) (bE:fP R) (bF:fQ R) (bG:fR R) (bH:fS R) (bY:gI R):List (lC R) := [(134,false,(RO tt (dy (OF cI db aE bZ ca bB bC bD bE bF bG bH bY)) (fun _=>none) false Tryz.f134 (bm Tryz.f134)))]
section
variable (cI:mi R) (db:nZ R) (aE:fL R) (bZ:gJ R) (ca:gK R) (bB:fM R) (bC:fN R) (bD:fO R) (bE:fP R) (bF:fQ R) (bG:fR R) (bH:fS R) (bY:gI R)
def Vd:List (lC R) := [(32,true,(M0 cI av)),(31,true,(Qo db av)),(41,true,(rh aE av)),(87,false,(RO tt (dy (OD cI db aE bZ ca bB bC bD bE bF bG bH bY)) (fun _=>none) false Tryz.f87 (bm Tryz.f87))),(94,false,(RO tt (dy (OG cI db aE bZ ca bB bC bD bE bF bG bH bY)) (fun _=>none) false Tryz.f94 (bm Tryz.f94)))]
def NT (x1:ag) (k0:aq.State→Int→Option R):Option R :=
 db x1 (fun y2 y3=>bif (y3 != 0)then (k0 (⟨0,0,([]:ag),0,0,false,0,0,false,0⟩:aq.State) y3)else (cI y2 (fun y4 y5 y6=>bif (y5 != 0)then (k0 (⟨0,0,([]:ag),0,0,false,0,0,false,0⟩:aq.State) y5)else (bB (⟨y4.kind,⟨y4.num.ao,y4.num.exp⟩,y4.text,y4.names,y4.items⟩:Json) ([104,101,97,100,101,114,73,100]:ag) (⟨0,0,([]:ag),0,0,false,0,0,false,0⟩:aq.State) (fun y7 y8 y9=>bif (!y7)then (k0 (⟨0,0,([]:ag),0,0,false,0,0,false,0⟩:aq.State) 90)else (bC (⟨y4.kind,⟨y4.num.ao,y4.num.exp⟩,y4.text,y4.names,y4.items⟩:Json) ([98,111,111,116]:ag) y9 (fun od ug zj=>bif (!od)then (k0 (⟨0,0,([]:ag),0,0,false,0,0,false,0⟩:aq.State) 90)else (bY (⟨y4.kind,⟨y4.num.ao,y4.num.exp⟩,y4.text,y4.names,y4.items⟩:Json) ([115,101,114,105,97,108,78,117,109,98,101,114]:ag) zj (fun FW Gm Ej=>bif (!FW)then (k0 (⟨0,0,([]:ag),0,0,false,0,0,false,0⟩:aq.State) 90)else (bD (⟨y4.kind,⟨y4.num.ao,y4.num.exp⟩,y4.text,y4.names,y4.items⟩:Json) ([111,114,100,101,114,73,100]:ag) Ej (fun Ar K2 J9=>bif (!Ar)then (k0 (⟨0,0,([]:ag),0,0,false,0,0,false,0⟩:aq.State) 90)else (bE (⟨y4.kind,⟨y4.num.ao,y4.num.exp⟩,y4.text,y4.names,y4.items⟩:Json) ([111,114,100,101,114,85,112,100,97,116,101,73,100]:ag) J9 (fun Pz Li C6=>bif (!Pz)then (k0 (⟨0,0,([]:ag),0,0,false,0,0,false,0⟩:aq.State) 90)else (bZ (⟨y4.kind,⟨y4.num.ao,y4.num.exp⟩,y4.text,y4.names,y4.items⟩:Json) ([108,105,118,101]:ag) C6 (fun Yr Sn y24=>bif (!Yr)then (k0 (⟨0,0,([]:ag),0,0,false,0,0,false,0⟩:aq.State) 90)else (bF (⟨y4.kind,⟨y4.num.ao,y4.num.exp⟩,y4.text,y4.names,y4.items⟩:Json) ([108,97,115,116,78,111,100,101,73,100]:ag) y24 (fun AY I1 FJ=>bif (!AY)then (k0 (⟨0,0,([]:ag),0,0,false,0,0,false,0⟩:aq.State) 90)else (bG (⟨y4.kind,⟨y4.num.ao,y4.num.exp⟩,y4.text,y4.names,y4.items⟩:Json) ([108,97,115,116,78,111,100,101,83,101,113,117,101,110,99,101,73,100]:ag) FJ (fun Pd W4 OO=>bif (!Pd)then (k0 (⟨0,0,([]:ag),0,0,false,0,0,false,0⟩:aq.State) 90)else (ca (⟨y4.kind,⟨y4.num.ao,y4.num.exp⟩,y4.text,y4.names,y4.items⟩:Json) ([100,114,105,118,105,110,103]:ag) OO (fun XL HY y33=>bif (!XL)then (k0 (⟨0,0,([]:ag),0,0,false,0,0,false,0⟩:aq.State) 90)else (bH (⟨y4.kind,⟨y4.num.ao,y4.num.exp⟩,y4.text,y4.names,y4.items⟩:Json) ([97,99,99,101,112,116,101,100]:ag) y33 (fun y34 y35 y36=>bif (!y34)then (k0 (⟨0,0,([]:ag),0,0,false,0,0,false,0⟩:aq.State) 90)else (aE y36 (fun y63=>bif (!y63)then (k0 (⟨0,0,([]:ag),0,0,false,0,0,false,0⟩:aq.State) 90)else (k0 y36 0))))))))))))))))))))))))))
theorem state_Take_ok:dD (R:=R) tt (Vd cI db aE bZ ca bB bC bD bE bF bG bH bY) nK false Tryz.f46 NR NS (SK (NT cI db aE bZ ca bB bC bD bE bF bG bH bY)):=fun x y k=>by kernel_rfl
end
theorem Ve:cr (R:=R) Tryz.prog (OD (R:=R) cI db aE bZ ca bB bC bD bE bF bG bH bY) := .f (oF TT mixed .n false rfl rfl rfl rfl) rfl <| .f (oF TT mixed .n false rfl rfl rfl rfl) rfl <| .f (oF TT mixed .n false rfl rfl rfl rfl) rfl <| .n
theorem Vf:cr (R:=R) Tryz.prog (OE (R:=R) cI db aE bZ ca bB bC bD bE bF bG bH bY) := .f (NP R _ (NM R _ (fA _))) rfl <| .f (KP R _ (KO R _ (KN R _ (KM R _ (KL R _ (KK R _ (KJ R _ (fA _)))))))) rfl <| .d (NJ R) rfl <| .n
theorem Vg:cr (R:=R) Tryz.prog (OF (R:=R) cI db aE bZ ca bB bC bD bE bF bG bH bY) := .f (oF TT mixed (Vf (R:=R)) false rfl rfl rfl rfl) rfl <| .n
theorem Vh:cr (R:=R) Tryz.prog (OG (R:=R) cI db aE bZ ca bB bC bD bE bF bG bH bY) := .f (oF TT mixed (Vg (R:=R)) false rfl rfl rfl rfl) rfl <| .n
theorem Z7:cr (R:=R) Tryz.prog (Vd (R:=R) cI db aE bZ ca bB bC bD bE bF bG bH bY) := .c (Oo R) <| .c (Qp R) <| .c (oy R) <| .f (oF TT mixed (Ve (R:=R)) false rfl rfl rfl rfl) rfl <| .f (oF TT mixed (Vh (R:=R)) false rfl rfl rfl rfl) rfl <| .n
def br:oo R:=fun x1 k0=>NT cI db aE bZ ca bB bC bD bE bF bG bH bY x1 k0
theorem uJ (R:Type):jT Tryz.prog 46 (xD (br (R:=R))):=bj TT mixed (Z7 (R:=R)) rfl rfl rfl rfl bX (state_Take_ok cI db aE bZ ca bB bC bD bE bF bG bH bY)
/-! ### cmp.isNaN[int] -/
abbrev xE (R:Type):Type:=Int→(Bool→Option R)→Option R
abbrev Gf:List cY := [.leaf (.int .i64)]
abbrev Gg:List aY := []
def L1 (fn:xE R):jU R Gf Gg:=fun x y k=>fn x.1 (fun q0=>k (.bool q0) [])
def OH (fn:xE R):=aC Gf Gg (L1 fn)
section
def Gh (x1:Int) (k0:Bool→Option R):Option R :=
 k0 (x1 != x1)
theorem Wp:dD (R:=R) tt [] nK false Tryz.f133 Gf Gg (L1 Gh):=fun x y k=>by kernel_rfl
end
def jz:xE R:=fun x1 k0=>Gh x1 k0
theorem TF (R:Type):jT Tryz.prog 133 (OH (jz (R:=R))):=bj TT mixed .n rfl rfl rfl rfl bX (Wp)
/-! ### cmp.Compare[int] -/
abbrev tQ (R:Type):Type:=Int→Int→(Int→Option R)→Option R
abbrev CK:List cY := [.leaf (.int .i64), .leaf (.int .i64)]
abbrev CL:List aY := []
def Ik (fn:tQ R):jU R CK CL:=fun x y k=>fn x.1 x.2.1 (fun q0=>k (.int .i64 q0) [])
def JS (fn:tQ R):=aC CK CL (Ik fn)
section
variable (jz:xE R)
def JT:List (lC R) := [(133,true,(OH jz av))]
def CM (x1:Int) (x2:Int) (k0:Int→Option R):Option R :=
 jz x1 (fun y3=>jz x2 (fun y4=>bif y3 then (bif y4 then (k0 0)else (k0 (-1)))else (bif y4 then (k0 1)else (bif (decide (x1<x2))then (k0 (-1))else (bif (decide (x1>x2))then (k0 1)else (k0 0))))))
theorem TG:dD (R:=R) tt (JT jz) nK false Tryz.f93 CK CL (Ik (CM jz)):=fun x y k=>by kernel_rfl
end
theorem R5:cr (R:=R) Tryz.prog (JT (R:=R) jz) := .c (TF R) <| .n
def gu:tQ R:=fun x1 x2 k0=>CM jz x1 x2 k0
theorem QI (R:Type):jT Tryz.prog 93 (JS (gu (R:=R))):=bj TT mixed (R5 (R:=R)) rfl rfl rfl rfl bX (TG jz)
/-! ### cmp.Or[int] -/
abbrev ES (R:Type):Type:=(List Int)→(Int→Option R)→Option R
abbrev NU:List cY := [.leaf (.sl (.int .i64))]
abbrev NV:List aY := []
def SL (fn:ES R):jU R NU NV:=fun x y k=>fn x.1 (fun q0=>k (.int .i64 q0) [])
def Vi (fn:ES R):=aC NU NV (SL fn)
abbrev CN (R:Type):Type:=Nat→Int→(List Int)→Int→Int→(Int→Option R)→(Int→Int→Option R)→Option R
def xF:Hint := { live := [3,6,7,8],own := [],rows := [],cells := [],drop := [],out := [2,3] }
abbrev oz:Type:=Int×(List Int)×Int×Int
def AK:oz→St:=fun d=>⟨U 3 (.int .i64 d.1::U 2 (.sl (.int .i64) d.2.1 .no :: .int .i64 d.2.2.1 :: .int .i64 d.2.2.2::U 9 ([]))), []⟩
def CO (K:Ex→St→Option R) (q0:Int):Option R:=K (.exit 0) ⟨U 3 (.int .i64 q0::U 14 ([])), []⟩
def CP (K:Ex→St→Option R) (q0:Int) (q1:Int):Option R:=K (.ret) ⟨U 2 (.int .i64 q0 :: .int .i64 q1::U 14 ([])), []⟩
abbrev sY:List cY:=PU 3 (.leaf (.int .i64)::PU 2 (.leaf (.sl (.int .i64)) :: .leaf (.int .i64) :: .leaf (.int .i64)::PU 9 ([])))
abbrev sZ:List aY := []
def L2 (x:cY.cD sY) (y:aY.cD sZ):Nat:=(Int.natAbs x.2.2.2.1+List.length x.2.2.2.2.2.2.1+Int.natAbs x.2.2.2.2.2.2.2.1+Int.natAbs ((t8 x).1)+64)
def Wq (x:cY.cD sY) (y:aY.cD sZ):oz:=(x.2.2.2.1,x.2.2.2.2.2.2.1,x.2.2.2.2.2.2.2.1,(t8 x).1)
def JU (L:CN R):Ed R sY sZ:=fun x y K=>L (L2 x y) x.2.2.2.1 x.2.2.2.2.2.2.1 x.2.2.2.2.2.2.2.1 ((t8 x).1) (CO K) (CP K)
section
variable (dC:CN R)
def xG (fc:Int→(List Int)→Int→Int→Option R) (x2:Int) (x3:List Int) (x4:Int) (x5:Int) (e0:Int→Option R) (e1:Int→Int→Option R):Option R :=
 bif (decide (x5<x4))then (cw (decide ((0:Int)≤x5)&&decide (x5<x3.length)) (bif ((x3.getD x5.toNat (Ty.bR (.int .i64))) != x2)then (e1 (x3.getD x5.toNat (Ty.bR (.int .i64))) x2)else (fc x2 x3 x4 (IntKind.i64.wrap (x5+1)))))else (e0 x2)
def L3 (K:Ex→St→Option R) (rc:oz→Option R) (d:oz):Option R:=xG (fun z0 z1 z2 z3=>rc (z0,z1,z2,z3)) d.1 d.2.1 d.2.2.1 d.2.2.2 (CO K) (CP K)
def CQ:Nat→Option (Hint×dE R):=fun i=>match i with
 | 3=>some (xF,(dR sY sZ (JU dC) lM))
 | _=>none
theorem R6 (K:Ex→St→Option R) (rc:St→Option R) (d:oz):roundOf tt (dy []) (CQ dC) 0 ((aN (bm Tryz.f92)).getD 0 .skip) xF (AK d) rc K=L3 K (fun d=>rc (AK d)) d:=by kernel_rfl
def NW (x1:List Int) (k0:Int→Option R):Option R :=
 dC (Int.natAbs 0+List.length x1+Int.natAbs (x1.length:Int)+Int.natAbs 0+64) 0 x1 (x1.length:Int) 0 (fun y6=>k0 y6) (fun y7 y8=>k0 y7)
theorem cmp_Or_int_ok:dD (R:=R) tt [] (CQ dC) false Tryz.f92 NU NV (SL (NW dC)):=fun x y k=>by kernel_rfl
end
def dC:CN R
 | 0,_,_,_,_,_,_=>none
 | n+1,jf,jj,jr,ur,e0,e1=>xG (fun jf jj jr ur=>dC n jf jj jr ur e0 e1) jf jj jr ur e0 e1
def L4 (K:Ex→St→Option R) (n:Nat) (d:oz):Option R:=dC n d.1 d.2.1 d.2.2.1 d.2.2.2 (CO K) (CP K)
theorem Vj (other:dE R) (ho:ki tt (dy []) (CQ (R:=R) dC) 0 ((aN (bm Tryz.f92)).getD 0 .skip) xF other):ki tt (dy []) (CQ (R:=R) dC) 0 ((aN (bm Tryz.f92)).getD 0 .skip) xF (dR sY sZ (JU (dC)) other) :=
 ei (A:=L4) ho (gd AK (L3) (L4) (fun _ _=>by kernel_rfl) (R6 dC) (fun _ _ _=>by kernel_rfl)) L2 Wq (fun _ _=>by kernel_rfl) (fun _ _ _=>by kernel_rfl)
def oX:ES R:=fun x1 k0=>NW dC x1 k0
theorem Wr (R:Type):∀a∈aN (bm Tryz.f92),ji tt (dy []) (CQ (R:=R) dC) 0 a:=by
 refine gR 1 (by kernel_rfl) fun i hi => ?_
 match i,hi with
 | 0,_=>exact dH (by kernel_rfl) (Vj _ fm)
 | n+1,hi=>omega
theorem X1 (R:Type):jT Tryz.prog 92 (Vi (oX (R:=R))):=bj TT mixed .n rfl rfl rfl rfl (Wr R) (cmp_Or_int_ok dC)
end Go.Proofs.YtidfokedcnhahaaGreatDoor
set_option maxRecDepth 100000
namespace Go.Proofs.YtidfokedcnhahaaGreatDoor
open Go Go.aq Go.Lib
def Fm (d:fT):Prop:=(d.ao=0∧d.exp=0)∨(Int.tmod d.ao 10≠0 ∧ -1000000000000000≤d.ao∧d.ao≤1000000000000000 ∧ -9≤d.exp∧d.exp≤9)
theorem Fm.bounds {d:fT} (h:Fm d) : -1000000000000000≤d.ao∧d.ao≤1000000000000000 ∧ -9≤d.exp∧d.exp≤9:=by
 rcases h with h|h <;> omega
theorem Fm.nz {d:fT} (h:Fm d) (h0:d.ao≠0):Int.tmod d.ao 10≠0:=by
 rcases h with h|h
 ·exact (h0 h.1).elim
 ·exact h.1
theorem Fm.zero {d:fT} (h:Fm d) (h0:d.ao=0):d=⟨0,0⟩:=by
 rcases h with h|h
 ·cases d; simp only at h; rw[h.1,h.2]
 ·exact (h.1 (by rw[h0]; rfl)).elim
theorem Fm.mk0:Fm ⟨0,0⟩ := .inl ⟨rfl,rfl⟩
theorem tmod_neg {m:Int} (h:Int.tmod m 10≠0):Int.tmod (-m) 10≠0:=by rw[Int.neg_tmod]; omega
theorem Fm.neg {d:fT} (h:Fm d):Fm ⟨-d.ao,d.exp⟩:=by
 rcases h with h|h
 ·exact .inl ⟨by simp only; omega,h.2⟩
 ·exact .inr ⟨tmod_neg h.1,by simp only; omega,by simp only; omega,h.2.2.2⟩
theorem right_ok {R:Type} {d:fT} (h:Fm d) (k:Bool→Option R):bS d k=k true:=by
 rcases h with h|h
 ·have e:bS d k=jD az d k:=rfl
  rw[e]
  unfold jD
  rw[h.1,h.2]
  rfl
 ·cases d; exact right_mk h.1 h.2 k
def Made (m x:Int) (r:fT×Bool):Prop:=(m=0∧r=(⟨0,0⟩,true))∨∃(u:Int) (j:Nat),m=u*10 ^ j∧Int.tmod u 10≠0∧r=Xj u (x+j)
theorem make_any {R:Type} (m x:Int) (hm:yx m) (h1 : -4000000000000000000≤x) (h2:x≤1000000):∃r:fT×Bool,Made m x r∧∀k:fT→Bool→Option R,bk m x k=k r.1 r.2:=by
 by_cases h0:m=0
 ·subst h0
  exact ⟨_, .inl ⟨rfl,rfl⟩,fun k=>Wn x k⟩
 ·obtain ⟨j,u,hu,hd⟩:=strip_ex (m.natAbs+1) m h0 (by omega)
  exact ⟨_, .inr ⟨u,j,hu,hd,rfl⟩,fun k=>by subst hu; exact make_ok u j x hd hm (by omega) h2 k⟩
def val (d:fT):Int:=d.ao*10 ^ (d.exp+9).toNat
theorem nDigits_low (u:Nat) (h:0<u):10 ^ (nDigits u - 1)≤u:=by
 induction u using Nat.strongRecOn with
 | _ u ih =>
  by_cases h1:u<10
  ·rw[nDigits_small h1]; exact h
  ·rw[nDigits_big h1,Nat.add_sub_cancel]
   have h2:=ih (u / 10) (by omega) (by omega)
   have h3:=nDigits_pos (u / 10)
   have e:nDigits (u / 10)=(nDigits (u / 10) - 1)+1:=by omega
   rw[e,Nat.pow_succ]
   omega
theorem Vk {u:Nat} (h:u≤1000000000000000):nDigits u≤16:=by
 rcases Nat.eq_zero_or_pos u with rfl|h0
 ·rw[nDigits_small (by omega)]; omega
 ·have h1:=nDigits_low u h0
  rcases Nat.lt_or_ge (nDigits u) 17 with h2|h2
  ·omega
  ·have h3:(10:Nat) ^ 16≤10 ^ (nDigits u - 1):=Nat.pow_le_pow_right (by omega) (by omega)
   have e:(10:Nat) ^ 16=10000000000000000:=rfl
   omega
theorem mkD_fm {u x:Int} (hu:Int.tmod u 10≠0) (h:(Xj u x).2=true):Xj u x=(⟨u,x⟩,true)∧Fm ⟨u,x⟩:=by
 unfold Xj at h ⊢
 split at h
 ·rename_i hc
  rw[if_pos hc]
  exact ⟨rfl, .inr ⟨hu,hc⟩⟩
 ·cases h
theorem made_same {d:fT} (h:Fm d) (h0:d.ao≠0) {j:Nat} {x:Int} (hx:x+j=d.exp) {r:fT×Bool} (hr:Made (d.ao*10 ^ j) x r):r=(d,true):=by
 have hz:=h.nz h0
 have hab:=TE d.ao j
 rcases hr with ⟨h1,_⟩|⟨u,i,e,hu,rfl⟩
 ·omega
 ·obtain ⟨rfl,rfl⟩:=strip_one i j u d.ao hu hz e.symm
  have b:=h.bounds
  unfold Xj
  rw[if_pos (by omega),hx]
end Go.Proofs.YtidfokedcnhahaaGreatDoor
set_option maxRecDepth 100000
namespace Go.Proofs.YtidfokedcnhahaaGreatDoor
open Go Go.aq
abbrev zs (s:ag):List Int:=s.map fun b=>(b.toNat:Int)
theorem zs_app (s t:ag):zs (s++t)=zs s++zs t:=List.map_append
theorem Bi (s:ag):gS s=zs s:=rfl
theorem Ey (s:ag):(zs s).length=s.length:=List.length_map _
theorem tR (s:ag):wm (zs s)=s:=by
 unfold wm zs
 rw[List.map_map]
 conv=>rhs; rw[←List.map_id s]
 exact List.map_congr_left fun b _=>by simp
theorem Ez (n:Nat) (h:n<256):((UInt8.ofNat n).toNat:Int)=n:=by rw[gW n h]
def Vl (s:ag):Prop:=s.length≤100000000000
theorem wb {R:Type} (b:UInt8) (s:ag) (hl:Vl s) (k:List Int→Option R):ad (b.toNat:Int) (zs s) k=k (zs (s ++ [b])):=by
 show cw (decide (((zs s).length+1)*1≤140737488355328)) (k (zs s ++ [(b.toNat:Int)]))=_
 unfold Vl at hl
 rw[ay (aQ (by rw[Ey]; omega)),zs_app]
 rfl
theorem ws {R:Type} (x:ag) (s:ag) (hx:x.length≤100000000000) (hl:Vl s) (k:Int→List Int→Option R):ae x (zs s) k=k (x.length:Int) (zs (s++x)):=by
 show cw (decide (((zs s).length+(gS x).length)*1≤140737488355328)) (k (x.length:Int) (zs s++gS x))=_
 unfold Vl at hl
 rw[Bi,ay (aQ (by rw[Ey,Ey]; omega)),zs_app]
theorem or128:∀x:Fin 64,IntKind.u8.wrap ((BitVec.ofInt IntKind.u8.bits 128 ||| BitVec.ofInt IntKind.u8.bits (x.val:Int)).toNat:Int)=((128+x.val:Nat):Int):=by decide +kernel
theorem or192:∀x:Fin 32,IntKind.u8.wrap ((BitVec.ofInt IntKind.u8.bits 192 ||| BitVec.ofInt IntKind.u8.bits (IntKind.u8.wrap (x.val:Int))).toNat:Int)=((192+x.val:Nat):Int):=by decide +kernel
theorem or224:∀x:Fin 16,IntKind.u8.wrap ((BitVec.ofInt IntKind.u8.bits 224 ||| BitVec.ofInt IntKind.u8.bits (IntKind.u8.wrap (x.val:Int))).toNat:Int)=((224+x.val:Nat):Int):=by decide +kernel
theorem or240:∀x:Fin 8,IntKind.u8.wrap ((BitVec.ofInt IntKind.u8.bits 240 ||| BitVec.ofInt IntKind.u8.bits (IntKind.u8.wrap (x.val:Int))).toNat:Int)=((240+x.val:Nat):Int):=by decide +kernel
theorem and63:∀x:Fin 256,IntKind.u8.wrap ((BitVec.ofInt IntKind.u8.bits (x.val:Int) &&& BitVec.ofInt IntKind.u8.bits 63).toNat:Int)=((x.val % 64:Nat):Int):=by decide +kernel
theorem wrap8 (n:Nat):IntKind.u8.wrap (n:Int)=((n % 256:Nat):Int):=by
 simp only[IntKind.wrap,IntKind.bits,IntKind.signed]
 simp
theorem wrap32u {n:Nat} (h:n<1114112):IntKind.u32.wrap (n:Int)=(n:Int):=by
 simp only[IntKind.wrap,IntKind.bits,IntKind.signed]
 simp
 omega
theorem shr (c n:Nat) (h:n≤32):Int.fdiv (c:Int) (2 ^ (min n IntKind.i32.bits))=((c / 2 ^ n:Nat):Int):=by
 have e:min n IntKind.i32.bits=n:=Nat.min_eq_left h
 rw[e,Int.fdiv_eq_ediv_of_nonneg _ (by exact Int.le_of_lt (Int.pow_pos (by omega)))]
 rw[Int.natCast_ediv]
 congr 1
theorem cont (c:Nat):IntKind.u8.wrap ((BitVec.ofInt IntKind.u8.bits 128 ||| BitVec.ofInt IntKind.u8.bits (IntKind.u8.wrap ((BitVec.ofInt IntKind.u8.bits (IntKind.u8.wrap (c:Int)) &&& BitVec.ofInt IntKind.u8.bits 63).toNat:Int))).toNat:Int)=((128+c % 64:Nat):Int):=by
 have h1:=and63 ⟨c % 256,Nat.mod_lt _ (by omega)⟩
 simp only at h1
 rw[wrap8 c,h1,show c % 256 % 64=c % 64 by omega]
 exact or128 ⟨c % 64,Nat.mod_lt _ (by omega)⟩
theorem zs_enc1 (n:Nat) (h:n<256):zs [UInt8.ofNat n] = [(n:Int)]:=by simp only[zs,List.map_cons,List.map_nil,Ez n h]
theorem ar {R:Type} {c:Nat} (hv:vr c) (s:ag) (hl:Vl s) (k:List Int→Option R):cH (zs s) (c:Int) k=k (zs (s++enc c)):=by
 have je:=vr_lt hv
 unfold Vl at hl
 show iT ck (zs s) (c:Int) k=_
 unfold iT
 rw[wrap32u je,zs_app]
 rcases Lw hv with ⟨h1,e⟩|⟨h0,h1,e⟩|⟨h0,h1,e⟩|⟨h0,e⟩
 ·rw[aQ (show (c:Int)≤127 by omega),cond_true,ay (aQ (by rw[Ey]; omega)),e,zs_enc1 c (by omega),wrap8,Nat.mod_eq_of_lt (by omega)]
 all_goals
  rw[cv (show ¬(c:Int)≤127 by omega),cond_false]
  show fG (zs s) (c:Int) _=_
  unfold fG
  rw[wrap32u je,e]
  simp only[cont,shr _ 6 (by omega),shr _ 12 (by omega),shr _ 18 (by omega),Ey]
 ·rw[aQ (show (c:Int)≤2047 by omega),cond_true,ay (aQ (by omega))]
  have:=or192 ⟨c / 64,by omega⟩
  simp only at this
  rw[show c / 2 ^ 6=c / 64 from rfl,this]
  simp only[zs,List.map_cons,List.map_nil,Ez (192+c / 64) (by omega),Ez (128+c % 64) (by omega)]
 ·rw[cv (show ¬(c:Int)≤2047 by omega),cond_false]
  unfold vr at hv
  by_cases h2:c<55296
  ·rw[aQ (show (c:Int)<55296 by omega),cond_true,cond_true,ay (aQ (by omega))]
   have:=or224 ⟨c / 4096,by omega⟩
   simp only at this
   rw[show c / 2 ^ 12=c / 4096 from rfl,this]
   simp only[zs,List.map_cons,List.map_nil,Ez (224+c / 4096) (by omega),Ez (128+c % 64) (by omega),Ez (128+c / 64 % 64) (by omega)]
  rw[cv (show ¬(c:Int)<55296 by omega),cond_false,aQ (show (57343:Int)<(c:Int) by omega),cond_true,aQ (show (c:Int)≤65535 by omega),cond_true,ay (aQ (by omega))]
  have:=or224 ⟨c / 4096,by omega⟩
  simp only at this
  rw[show c / 2 ^ 12=c / 4096 from rfl,this]
  simp only[zs,List.map_cons,List.map_nil,Ez (224+c / 4096) (by omega),Ez (128+c % 64) (by omega),Ez (128+c / 64 % 64) (by omega)]
 ·rw[cv (show ¬(c:Int)≤2047 by omega),cond_false]
  rw[cv (show ¬(c:Int)<55296 by omega),cond_false,aQ (show (57343:Int)<(c:Int) by omega),cond_true,cv (show ¬(c:Int)≤65535 by omega),cond_false,
   aQ (show (c:Int)>65535 by omega),cond_true,aQ (show (c:Int)≤1114111 by omega),cond_true,ay (aQ (by omega))]
  have:=or240 ⟨c / 262144,by omega⟩
  simp only at this
  rw[show c / 2 ^ 18=c / 262144 from rfl,this]
  simp only[zs,List.map_cons,List.map_nil,Ez (240+c / 262144) (by omega),Ez (128+c % 64) (by omega),Ez (128+c / 64 % 64) (by omega),Ez (128+c / 4096 % 64) (by omega)]
theorem wr {R:Type} {c:Nat} (hv:vr c) (s:ag) (hl:Vl s) (k:Int→List Int→Option R):∃n:Int,ak (c:Int) (zs s) k=k n (zs (s++enc c)):=by
 refine ⟨IntKind.i64.wrap (((zs (s++enc c)).length:Int) - ((zs s).length:Int)),?_⟩
 show hY cH (c:Int) (zs s) k=_
 unfold hY
 rw[ar hv s hl]
end Go.Proofs.YtidfokedcnhahaaGreatDoor
set_option maxRecDepth 100000
namespace Go.Proofs.YtidfokedcnhahaaGreatDoor
open Go Go.aq Go.Lib
def gk (n:Nat):ag:=List.replicate n 48
theorem oA (n:Nat):(gk n).length=n:=List.length_replicate
theorem SM:∀n:Nat,repeatL [48] n=gk n
 | 0=>rfl
 | n+1=>by
  have:=SM n
  simp[repeatL,gk,List.replicate_succ]at this ⊢
  try exact this
theorem repS_zeros (z:Int):lj [48] z=gk z.toNat:=SM _
def body (L:ag) (e:Int):ag :=
 if 0≤e then L++gk e.toNat
 else
  let t:=gk (max 0 (1 - e - (L.length:Int))).toNat++L
  t.take ((t.length:Int)+e).toNat ++ [46]++t.drop ((t.length:Int)+e).toNat
def X2 (d:fT):ag:=(if d.ao<0 then [45]else [])++body (decDigits d.ao.natAbs) d.exp
theorem wsn {R:Type} (x:ag) (hx:x.length≤100000000000) (k:Int→List Int→Option R):ai x k=k (x.length:Int) (zs x):=by
 show cw (decide ((0+(gS x).length)*1≤140737488355328)) (k (x.length:Int) (gS x))=_
 rw[Bi,ay (aQ (by rw[Ey]; omega))]
theorem print_ok {R:Type} {d:fT} (h:Fm d) (k:ag→Option R):bT d k=k (X2 d):=by
 have b:=h.bounds
 have e:bT d k=pJ bS aj ae ai d k:=rfl
 rw[e]
 unfold pJ
 rw[right_ok h,Bool.not_true,cond_false]
 have hL:cz (max d.ao (IntKind.i64.wrap (0 - d.ao)))=decDigits d.ao.natAbs:=by
  rw[cL (n:=0 - d.ao) (by omega) (by omega)]
  have hm:max d.ao (0 - d.ao)=(d.ao.natAbs:Int):=by omega
  rw[hm]
  exact itoa_nonneg _
 have hlen:(decDigits d.ao.natAbs).length≤16:=by rw[decDigits_length]; exact Vk (by omega)
 simp only[hL,repS_zeros]
 unfold X2
 generalize decDigits d.ao.natAbs=L at *
 have w1:IntKind.i64.wrap (1 - d.exp)=1 - d.exp:=cL (by omega) (by omega)
 have w2:IntKind.i64.wrap (1 - d.exp - (L.length:Int))=1 - d.exp - (L.length:Int):=cL (by omega) (by omega)
 rw[w1,w2]
 have one:(([48]:ag).length:Int)=1:=rfl
 rw[one]
 have z0:0≤max 0 (1 - d.exp - (L.length:Int)):=by omega
 have zl:max 0 (1 - d.exp - (L.length:Int))≤10:=by omega
 have zL:1 - d.exp≤max 0 (1 - d.exp - (L.length:Int))+L.length:=by omega
 unfold body
 simp only
 generalize max 0 (1 - d.exp - (L.length:Int))=z at *
 have tl:(gk z.toNat++L).length=z.toNat+L.length:=by rw[List.length_append,oA]
 generalize gk z.toNat++L=t at *
 have lapp:∀a b:ag,(a++b).length=a.length+b.length:=fun a b=>List.length_append
 have lone:([46]:ag).length=1:=rfl
 have e45:([45]:List Int)=zs [45]:=rfl
 have q2:∀(x:Int) (f:List Int→Option R),aj x f=f [x]:=fun _ _=>rfl
 have lim45:Vl [45]:=by unfold Vl; simp
 by_cases he:0≤d.exp
 ·rw[aQ (show d.exp≥0 from he),if_pos he]
  by_cases hm:d.ao<0
  ·rw[aQ hm,if_pos hm]
   simp only[cond_true]
   rw[q2,ay (by rw[aQ (show 1*d.exp≤140737488355328 by omega)]; rfl),ay (aQ (by rw[oA]; omega)),e45,ws _ _ (by rw[lapp,oA]; omega) lim45,tR]
  ·rw[cv hm,if_neg hm]
   simp only[cond_true,cond_false]
   rw[ay (by rw[aQ (show 1*d.exp≤140737488355328 by omega)]; rfl),ay (aQ (by rw[oA]; omega)),wsn _ (by rw[lapp,oA]; omega),tR]
   rfl
 ·have wt:IntKind.i64.wrap ((t.length:Int)+d.exp)=(t.length:Int)+d.exp:=cL (by omega) (by omega)
  rw[cv (show ¬d.exp≥0 from he),if_neg he]
  simp only[wt,List.drop_zero,Nat.sub_zero,Int.toNat_natCast,cond_false]
  have l1:(t.take ((t.length:Int)+d.exp).toNat).length≤t.length:=by rw[List.length_take]; omega
  have l2:(t.drop ((t.length:Int)+d.exp).toNat).length≤t.length:=by rw[List.length_drop]; omega
  have c1:(decide ((0:Int)≤(t.length:Int)+d.exp)&&decide ((t.length:Int)+d.exp≤(t.length:Int)))=true:=by rw[aQ (by omega),aQ (by omega)]; rfl
  have c2:(decide ((0:Int)≤(t.length:Int))&&decide ((t.length:Int)≤(t.length:Int)))=true:=by rw[aQ (by omega),aQ (by omega)]; rfl
  have c3:(decide ((0:Int)≤z)&&decide (1*z≤140737488355328))=true:=by rw[aQ z0,aQ (by omega)]; rfl
  have et:(t.drop ((t.length:Int)+d.exp).toNat).take (t.length - ((t.length:Int)+d.exp).toNat)=t.drop ((t.length:Int)+d.exp).toNat:=List.take_of_length_le (by rw[List.length_drop]; exact Nat.le_refl _)
  rw[et]
  by_cases hm:d.ao<0
  ·rw[aQ hm,if_pos hm]
   simp only[cond_true]
   rw[q2,ay c3,ay (aQ (by rw[oA]; omega)),ay c1,ay (aQ (by omega)),ay (aQ (by omega)),ay c2,ay c1,ay (aQ (by rw[lapp,lone]; omega)),e45,ws _ _ (by rw[lapp,lapp,lone]; omega) lim45,tR]
  ·rw[cv hm,if_neg hm]
   simp only[cond_false]
   rw[ay c3,ay (aQ (by rw[oA]; omega)),ay c1,ay (aQ (by omega)),ay (aQ (by omega)),ay c2,ay c1,ay (aQ (by rw[lapp,lone]; omega)),wsn _ (by rw[lapp,lapp,lone]; omega),tR]
   rfl
theorem band2 {p q:Prop} [Decidable p] [Decidable q] (hp:p) (hq:q):(decide p&&decide q)=true:=by rw[aQ hp,aQ hq]; rfl
theorem Z8:∀(p s:ag),(s.take p.length==p)=p.isPrefixOf s
 | [],s=>by simp
 | a::p, []=>by simp
 | a::p,b::s=>by
  have:=Z8 p s
  simp only[List.length_cons,List.take_succ_cons,List.isPrefixOf]
  rw[List.cons_beq_cons,this]
  congr 1
  exact Bool.beq_comm
theorem Yt {R:Type} (p s:ag) (hp:p.length≤1000) (hs:s.length≤9000000000000000000) (k:Bool→ag→Option R) :
  aK p s k=if p.isPrefixOf s then k true (s.drop p.length)else k false s:=by
 have e1:∀f:ag→Bool→Option R,fH s p f=cK s p f:=fun _=>rfl
 show fH s p (fun y3 y4=>k y4 y3)=_
 rw[e1]
 show ib cA s p (fun y3 y4=>k y4 y3)=_
 unfold ib
 have e2:∀f:Bool→Option R,cA s p f=f (p.isPrefixOf s):=by
  intro f
  show ia s p f=_
  unfold ia
  by_cases h:p.length≤s.length
  ·rw[aQ (show (s.length:Int)≥(p.length:Int) by omega),cond_true,ay (by rw[aQ (show (0:Int)≤(p.length:Int) by omega)]; rfl),ay (aQ (by omega))]
   rw[List.drop_zero,Int.toNat_natCast,Nat.sub_zero,Z8]
  ·rw[cv (show ¬(s.length:Int)≥(p.length:Int) by omega),cond_false]
   congr 1
   rw[←Z8]
   symm
   rw[beq_eq_false_iff_ne]
   intro e
   have:=congrArg List.length e
   rw[List.length_take]at this
   omega
 rw[e2]
 cases hp2:p.isPrefixOf s with
 | false=>simp
 | true =>
  have hle:p.length≤s.length:=(List.IsPrefix.length_le (List.isPrefixOf_iff_prefix.1 hp2))
  rw[Bool.not_true,cond_false,ay (band2 (by omega) (by omega)),ay (band2 (by omega) (by omega))]
  simp only[Int.toNat_natCast,if_true]
  rw[List.take_of_length_le (by rw[List.length_drop]; exact Nat.le_refl _)]
theorem decRune_eq {s:ag} (h:s ≠ []):o5 s=decodeL s:=by
 unfold o5
 have:s.isEmpty=false:=by cases s with|nil=>exact (h rfl).elim|cons _ _=>rfl
 rw[this]
 rfl
def NX (s:ag):Option (Nat×ag) :=
 if s = []then none else if (decodeL s).1=65533∧(decodeL s).2=1 then none else if (decodeL s).1<32 then none else some ((decodeL s).1,s.drop (decodeL s).2)
theorem plain_ok {R:Type} (s:ag) (hs:s.length≤9000000000000000000) (k:Int→ag→Option R) :
  bV s k=match NX s with|some (c,r)=>k (c:Int) r|none=>k (-1) s:=by
 show lF s k=_
 unfold lF
 by_cases h0:s = []
 ·subst h0; rfl
 rw[decRune_eq h0]
 have hw:=decodeL_width s
 have hle:=decodeL_le s h0
 have hj:(cw (decide ((0:Int)≤(s.length:Int))&&decide ((s.length:Int)≤s.length)) (cw (decide ((0:Int)≤((decodeL s).2:Int))&&decide (((decodeL s).2:Int)≤(s.length:Int))) (k ((decodeL s).1:Int) ((s.drop ((decodeL s).2:Int).toNat).take ((s.length:Int).toNat - ((decodeL s).2:Int).toNat)))))=k ((decodeL s).1:Int) (s.drop (decodeL s).2):=by
  rw[ay (band2 (by omega) (by omega)),ay (band2 (by omega) (by omega)),Int.toNat_natCast,Int.toNat_natCast,List.take_of_length_le (by rw[List.length_drop]; exact Nat.le_refl _)]
 simp only[hj]
 unfold NX
 rw[if_neg h0]
 by_cases h1:(decodeL s).1=65533
 ·have e1:(((decodeL s).1:Int)==65533)=true:=by rw[h1]; rfl
  rw[e1,cond_true]
  by_cases h2:(decodeL s).2=1
  ·rw[aQ (show ((decodeL s).2:Int)<2 by omega),cond_true,if_pos ⟨h1,h2⟩]
  ·rw[cv (show ¬((decodeL s).2:Int)<2 by omega),cond_false,cv (show ¬((decodeL s).1:Int)<32 by omega),cond_false,if_neg (fun h=>h2 h.2),if_neg (by omega)]
 ·have e1:(((decodeL s).1:Int)==65533)=false:=by rw[beq_eq_false_iff_ne]; omega
  rw[e1,cond_false,if_neg (fun h=>h1 h.1)]
  by_cases h3:(decodeL s).1<32
  ·rw[aQ (show ((decodeL s).1:Int)<32 by omega),cond_true,if_pos h3]
  ·rw[cv (show ¬((decodeL s).1:Int)<32 by omega),cond_false,if_neg h3]
def X3 (b:UInt8):Option Nat :=
 let n:=b.toNat
 if 48≤n∧n≤57 then some (n - 48)else if 65≤n∧n≤70 then some (n - 55)else if 97≤n∧n≤102 then some (n - 87)else none
def Vm:ag→Nat→Option Nat
 | [],v=>some v
 | b::t,v=>match X3 b with|some d=>Vm t (16*v+d)|none=>none
def Fy (b:Int):Int:=IntKind.u8.wrap ((BitVec.ofInt IntKind.u8.bits b ||| BitVec.ofInt IntKind.u8.bits 32).toNat:Int)
def hexB (b:Nat):Bool :=
 (!(decide (48≤b)&&decide (b≤57))||decide (IntKind.u8.wrap ((b:Int) - 48)=((b - 48:Nat):Int))) &&
 (!(decide ((97:Int)≤Fy b)&&decide (Fy b≤122))||(!(decide (48≤b)&&decide (b≤57))&&decide (b≠95)&&decide (IntKind.u8.wrap ((IntKind.u8.wrap (Fy b - 97))+10)=Fy b - 87) &&
  (!decide (Fy b - 87<16)||((decide (65≤b)&&decide (b≤70)&&decide (Fy b - 87=((b - 55:Nat):Int)))||(decide (97≤b)&&decide (b≤102)&&decide (Fy b - 87=((b - 87:Nat):Int))))) &&
  (!decide (16≤Fy b - 87)||(!(decide (65≤b)&&decide (b≤70)) && !(decide (97≤b)&&decide (b≤102)))))) &&
 ((decide ((97:Int)≤Fy b)&&decide (Fy b≤122))||(!(decide (65≤b)&&decide (b≤70)) && !(decide (97≤b)&&decide (b≤102))))
theorem hexB_all:∀b:Fin 256,hexB b.val=true:=by decide +kernel
theorem hex_fact (b:Nat) (hb:b<256) :
  ((48≤b∧b≤57)→IntKind.u8.wrap ((b:Int) - 48)=((b - 48:Nat):Int)) ∧
  ((97:Int)≤Fy b→Fy b≤122→¬(48≤b∧b≤57)∧b≠95∧IntKind.u8.wrap ((IntKind.u8.wrap (Fy b - 97))+10)=Fy b - 87 ∧
   (Fy b - 87<16→((65≤b∧b≤70)∧Fy b - 87=((b - 55:Nat):Int))∨((97≤b∧b≤102)∧Fy b - 87=((b - 87:Nat):Int))) ∧
   (16≤Fy b - 87→¬(65≤b∧b≤70)∧¬(97≤b∧b≤102))) ∧
  (¬((97:Int)≤Fy b∧Fy b≤122)→¬(65≤b∧b≤70)∧¬(97≤b∧b≤102)):=by
 have h:=hexB_all ⟨b,hb⟩
 unfold hexB at h
 generalize Fy (b:Int)=l at *
 simp only[Bool.and_eq_true,Bool.or_eq_true,Bool.not_eq_true',Bool.and_eq_false_iff,decide_eq_true_eq,decide_eq_false_iff_not]at h
 obtain ⟨⟨h1,h2⟩,h3⟩:=h
 refine ⟨fun q => ?_,fun q1 q2 => ?_,fun q => ?_⟩
 ·rcases h1 with h1|h1
  ·omega
  ·exact h1
 ·rcases h2 with h2|⟨⟨⟨⟨g1,g2⟩,g3⟩,g4⟩,g5⟩
  ·omega
  ·refine ⟨by omega,g2,g3,fun q => ?_,fun q => ?_⟩
   ·rcases g4 with g4|g4
    ·omega
    ·rcases g4 with ⟨⟨k1,k2⟩,k3⟩|⟨⟨k1,k2⟩,k3⟩
     ·exact .inl ⟨⟨k1,k2⟩,k3⟩
     ·exact .inr ⟨⟨k1,k2⟩,k3⟩
   ·rcases g5 with g5|⟨k1,k2⟩
    ·omega
    ·exact ⟨by omega,by omega⟩
 ·rcases h3 with h3|⟨k1,k2⟩
  ·omega
  ·exact ⟨by omega,by omega⟩
theorem hexv_lt {b:UInt8} {d:Nat} (h:X3 b=some d):d<16:=by
 unfold X3 at h
 simp only at h
 split at h
 ·cases h; omega
 ·split at h
  ·cases h; omega
  ·split at h
   ·cases h; omega
   ·cases h
theorem u64w {n:Int} (h0:0≤n) (h:n≤18446744073709551615):IntKind.u64.wrap n=n:=by
 simp only[IntKind.wrap,IntKind.bits,IntKind.signed]
 simp
 omega
theorem uint_round {R:Type} {s x22:ag} {i v:Nat} (hi:i<s.length) (hs:s.length≤1000) (hv:v<4096) (fc:Int→Bool→ag→Int→Int→Bool→Int→Nat→Int→Int→(List Int)→Option R) (e0:ag→Bool→Int→Option R) (e1 e2:Int→ag→Bool→Int→Option R) (e3:Int→ag→Bool→Option R) :
  dG internal_strconv_lower fc 16 false x22 1152921504606846976 65535 false (v:Int) s.length (s.length:Int) (i:Int) (gS s) e0 e1 e2 e3 =
   match X3 (s[i])with
   | some d=>fc 16 false x22 1152921504606846976 65535 false ((16*v+d:Nat):Int) s.length (s.length:Int) ((i+1:Nat):Int) (gS s)
   | none=>e1 0 x22 false (v:Int):=by
 unfold dG
 have hlow:∀(n:Int) (f:Int→Option R),internal_strconv_lower n f=f (Fy n):=fun _ _=>rfl
 have HF:(gS s).getD (i:Int).toNat (Ty.bR (.int .u8))=(s[i].toNat:Int):=by
  rw[Int.toNat_natCast]
  show (s.map fun b=>(b.toNat:Int)).getD i _=_
  simp[List.getD,hi]
  rfl
 rw[aQ (show (i:Int)<(s.length:Int) by omega),cond_true,ay (by rw[aQ (show (0:Int)≤(i:Int) by omega)]; rfl),
  ay (aQ (by rw[Int.toNat_natCast,Bi,Ey]; exact hi))]
 simp only[HF,hlow]
 obtain ⟨f1,f2,f3⟩:=hex_fact s[i].toNat (UInt8.toNat_lt _)
 have hb:=UInt8.toNat_lt s[i]
 generalize hbn:s[i].toNat=b at *
 have hw16:IntKind.u8.wrap 16=16:=by decide
 have hw64:IntKind.u64.wrap 16=16:=by decide
 have hi1:IntKind.i64.wrap ((i:Int)+1)=((i+1:Nat):Int):=by rw[cL (by omega) (by omega)]; omega
 -- a digit's value, if it is below 16
 have fit:∀d:Nat,d<16→∀z:Int,z=(d:Int)→(bif (decide (z≥(IntKind.u8.wrap 16)))then (e1 0 x22 false (v:Int))else (bif (decide ((v:Int)≥1152921504606846976))then (e2 65535 x22 false (v:Int))else (bif (decide ((IntKind.u64.wrap ((IntKind.u64.wrap ((v:Int)*(IntKind.u64.wrap 16)))+(IntKind.u64.wrap z)))<(IntKind.u64.wrap ((v:Int)*(IntKind.u64.wrap 16)))))then (e2 65535 x22 false (IntKind.u64.wrap ((v:Int)*(IntKind.u64.wrap 16))))else (bif (decide ((IntKind.u64.wrap ((IntKind.u64.wrap ((v:Int)*(IntKind.u64.wrap 16)))+(IntKind.u64.wrap z)))>65535))then (e2 65535 x22 false (IntKind.u64.wrap ((v:Int)*(IntKind.u64.wrap 16))))else (fc 16 false x22 1152921504606846976 65535 false (IntKind.u64.wrap ((IntKind.u64.wrap ((v:Int)*(IntKind.u64.wrap 16)))+(IntKind.u64.wrap z))) s.length (s.length:Int) (IntKind.i64.wrap ((i:Int)+1)) (gS s)))))) =
   fc 16 false x22 1152921504606846976 65535 false ((16*v+d:Nat):Int) s.length (s.length:Int) ((i+1:Nat):Int) (gS s):=by
  intro d hd z hz
  subst hz
  have k1:IntKind.u64.wrap ((v:Int)*16)=(v:Int)*16:=u64w (by omega) (by omega)
  have k2:IntKind.u64.wrap (d:Int)=d:=u64w (by omega) (by omega)
  have k3:IntKind.u64.wrap ((v:Int)*16+(d:Int))=(v:Int)*16+(d:Int):=u64w (by omega) (by omega)
  rw[hw16,hw64,k1,k2,k3,hi1,cv (show ¬(d:Int)≥16 by omega),cond_false,cv (show ¬(v:Int)≥1152921504606846976 by omega),cond_false,cv (show ¬(v:Int)*16+(d:Int)<(v:Int)*16 by omega),cond_false,
   cv (show ¬(v:Int)*16+(d:Int)>65535 by omega),cond_false]
  have:(v:Int)*16+(d:Int)=((16*v+d:Nat):Int):=by omega
  rw[this]
 rw[cond_false,Bool.cond_self]
 unfold X3
 simp only[hbn]
 by_cases h1:48≤b∧b≤57
 ·rw[aQ (show (48:Int)≤(b:Int) by omega),cond_true,aQ (show (b:Int)≤57 by omega),cond_true,if_pos h1]
  exact fit (b - 48) (by omega) _ (f1 h1)
 ·rw[if_neg h1]
  have h48:∀x z:Option R,(bif (decide ((48:Int)≤(b:Int)))then (bif (decide ((b:Int)≤(57:Int)))then x else z)else z)=z:=by
   intro x z
   by_cases h:(48:Int)≤(b:Int)
   ·rw[aQ h,cond_true,cv (show ¬(b:Int)≤57 by omega),cond_false]
   ·rw[cv h,cond_false]
  simp only[cond_false]
  rw[h48]
  by_cases h2:(97:Int)≤Fy b
  ·rw[aQ h2,cond_true]
   by_cases h3:Fy b≤122
   ·rw[aQ h3,cond_true]
    obtain ⟨_,_,g1,g2,g3⟩:=f2 h2 h3
    rw[g1]
    by_cases h4:Fy b - 87<16
    ·rcases g2 h4 with ⟨q1,q2⟩|⟨q1,q2⟩
     ·rw[if_pos q1]
      exact fit (b - 55) (by omega) _ q2
     ·rw[if_neg (by omega),if_pos q1]
      exact fit (b - 87) (by omega) _ q2
    ·obtain ⟨q1,q2⟩:=g3 (by omega)
     rw[hw16,aQ (show Fy b - 87≥16 by omega),cond_true,if_neg q1,if_neg q2]
   ·rw[cv h3,cond_false]
    obtain ⟨q1,q2⟩:=f3 (by omega)
    rw[if_neg q1,if_neg q2]
  ·rw[cv h2,cond_false]
   obtain ⟨q1,q2⟩:=f3 (by omega)
   rw[if_neg q1,if_neg q2]
theorem hexN_step (s:ag) (i v:Nat) (hi:i<s.length):Vm (s.drop i) v=match X3 s[i]with|some d=>Vm (s.drop (i+1)) (16*v+d)|none=>none:=by
 rw[List.drop_eq_getElem_cons hi]
 rfl
theorem uint_loop {R:Type} {s x22:ag} (hs:s.length≤4) (e0:ag→Bool→Int→Option R) (e1 e2:Int→ag→Bool→Int→Option R) (e3:Int→ag→Bool→Option R):∀(n i v:Nat),s.length - i<n→i≤s.length→v<16 ^ i →
  (match Vm (s.drop i) v with
   | some u=>aI n 16 false x22 1152921504606846976 65535 false (v:Int) s.length (s.length:Int) (i:Int) (gS s) e0 e1 e2 e3=e0 x22 false (u:Int)
   | none=>∃w,aI n 16 false x22 1152921504606846976 65535 false (v:Int) s.length (s.length:Int) (i:Int) (gS s) e0 e1 e2 e3=e1 0 x22 false w):=by
 intro n
 induction n with
 | zero=>intro i v h; omega
 | succ n ih =>
  intro i v h hi hv
  by_cases je:i<s.length
  ·have hv2:v<4096:=by
    have:16 ^ i≤16 ^ 3:=Nat.pow_le_pow_right (by omega) (by omega)
    have e:(16:Nat) ^ 3=4096:=rfl
    omega
   have hr:=uint_round (R:=R) (x22:=x22) je (by omega) hv2 (fun jf jj jr ur Eg FT RS RT RU RV yc=>aI n jf jj jr ur Eg FT RS RT RU RV yc e0 e1 e2 e3) e0 e1 e2 e3
   have hL:aI (n+1) 16 false x22 1152921504606846976 65535 false (v:Int) s.length (s.length:Int) (i:Int) (gS s) e0 e1 e2 e3 =
    dG internal_strconv_lower (fun jf jj jr ur Eg FT RS RT RU RV yc=>aI n jf jj jr ur Eg FT RS RT RU RV yc e0 e1 e2 e3) 16 false x22 1152921504606846976 65535 false (v:Int) s.length (s.length:Int) (i:Int) (gS s) e0 e1 e2 e3:=rfl
   rw[hL,hr,hexN_step s i v je]
   cases hx:X3 s[i]with
   | none=>exact ⟨_,rfl⟩
   | some d =>
    have hd:=hexv_lt hx
    have:(16:Nat) ^ (i+1)=16 ^ i*16:=Nat.pow_succ ..
    exact ih (i+1) (16*v+d) (by omega) (by omega) (by omega)
  ·have e:s.drop i = []:=List.drop_eq_nil_of_le (by omega)
   rw[e]
   simp only[Vm]
   show dG internal_strconv_lower _ 16 false x22 1152921504606846976 65535 false (v:Int) s.length (s.length:Int) (i:Int) (gS s) e0 e1 e2 e3=_
   unfold dG
   rw[cv (show ¬(i:Int)<(s.length:Int) by omega),cond_false]
theorem parse4 {R:Type} {s:ag} (hs:s.length=4) (k0 k1:Int→Option R):fI s 16 16 k0 k1=match Vm s 0 with|some u=>k1 (u:Int)|none=>k0 0:=by
 show rX dh s 16 16 k0 k1=_
 unfold rX
 show jF internal_strconv_lower bM aI s 16 16 _ _ _ _ _=_
 unfold jF
 have h1:(s==([]:ag))=false:=by rw[beq_eq_false_iff_ne]; rintro rfl; simp at hs
 rw[h1,cond_false]
 have c1:decide ((2:Int)≤16)=true:=by decide
 have c2:decide ((16:Int)≤36)=true:=by decide
 have c3:((16:Int)==0)=false:=by decide
 have c4:decide ((16:Int)<0)=false:=by decide
 have c5:decide ((16:Int)>64)=false:=by decide
 have c6:((16:Int)==10)=false:=by decide
 have c7:((16:Int)==16)=true:=by decide
 have c8:decide ((0:Int)≤IntKind.u64.wrap 16)=true:=by decide
 have c9:(IntKind.u64.wrap ((IntKind.u64.wrap (1*2 ^ (min ((IntKind.u64.wrap 16).toNat) IntKind.u64.bits))) - 1))=65535:=by decide +kernel
 dsimp only
 rw[c1,cond_true,c2,cond_true,c3,cond_false,c4,cond_false,c5,cond_false,c6,cond_false,c7,cond_true]
 rw[c8,ay rfl,c9]
 have hb:decide (s.length≤281474976710656)=true:=aQ (by omega)
 have key:=fun (n:Nat) (hn:4<n) (e0:ag→Bool→Int→Option R) (e1 e2:Int→ag→Bool→Int→Option R) (e3:Int→ag→Bool→Option R)=>uint_loop (R:=R) (s:=s) (x22:=s) (by omega) e0 e1 e2 e3 n 0 0 (by omega) (by omega) (by omega)
 have z0:(((0:Nat):Int))=0:=rfl
 simp only[List.drop_zero,z0]at key
 cases hx:Vm s 0 with
 | some u =>
  simp only[hx]at key
  rw[key _ (by omega)]
  rfl
 | none =>
  simp only[hx]at key
  generalize hF:(Int.natAbs 16+List.length s+Int.natAbs 1152921504606846976+Int.natAbs 65535+Int.natAbs 0+Int.natAbs (s.length:Int)+Int.natAbs 0+List.length (gS s)+64)=F at *
  obtain ⟨w,hw⟩:=key F (by rw[←hF]; omega) _ _ _ _
  rw[hw,ay (by rfl),hb,ay rfl]
theorem Z9:∀(l:ag) (v u:Nat),Vm l v=some u→u<(v+1)*16 ^ l.length
 | [],v,u,h=>by cases h; simp
 | b::t,v,u,h=>by
  simp only[Vm]at h
  cases hx:X3 b with
  | none=>rw[hx]at h; cases h
  | some d =>
   rw[hx]at h
   have h1:=Z9 t _ _ h
   have hd:=hexv_lt hx
   have h2:(16*v+d+1)*16 ^ t.length≤((v+1)*16)*16 ^ t.length:=Nat.mul_le_mul_right _ (by omega)
   rw[List.length_cons,Nat.pow_succ]
   have h3:(v+1)*16*16 ^ t.length=(v+1)*(16 ^ t.length*16):=by rw[Nat.mul_assoc,Nat.mul_comm 16]
   omega
theorem hexN_all:∀(l:ag) (v u:Nat),Vm l v=some u→∀b∈l,(X3 b).isSome=true
 | [],v,u,h=>by simp
 | b::t,v,u,h=>by
  simp only[Vm]at h
  cases hx:X3 b with
  | none=>rw[hx]at h; cases h
  | some d =>
   rw[hx]at h
   intro c hc
   rcases List.mem_cons.1 hc with rfl|hc
   ·rw[hx]; rfl
   ·exact hexN_all t _ _ h c hc
theorem hexv_asc {b:UInt8} (h:(X3 b).isSome=true):b.toNat<128∧b.toNat≠43∧b.toNat≠45∧b.toNat≠95:=by
 unfold X3 at h
 simp only at h
 revert h
 (repeat' split) <;> intro h <;> first|omega|cases h
theorem hasAny_none (cs:ag):∀s:ag,(∀b∈s,cs.contains b=false)→ZB s cs=false:=by
 have key:∀s:ag,(∀b∈s,cs.contains b=false)→indexAny s cs = -1:=by
  intro s
  induction s with
  | nil=>intro _; rfl
  | cons b s ih =>
   intro h
   unfold indexAny
   rw[h b (by simp)]
   have:=ih fun x hx=>h x (by simp[hx])
   simp[this]
 intro s h
 unfold ZB containsAny
 rw[key s h]
 rfl
def OI (s:ag):Option (Nat×ag):=if s.length<4 then none else match Vm (s.take 4) 0 with|some v=>some (v,s.drop 4)|none=>none
theorem Il {s r:ag} {v:Nat} (h:OI s=some (v,r)):v<65536∧4≤s.length∧r=s.drop 4:=by
 unfold OI at h
 split at h
 ·cases h
 ·rename_i hl
  split at h
  ·rename_i u hu
   cases h
   have:=Z9 _ _ _ hu
   rw[List.length_take,Nat.min_eq_left (by omega)]at this
   exact ⟨by omega,by omega,rfl⟩
  ·cases h
theorem Rw {n:Nat} (h:n<1114112):IntKind.i32.wrap (n:Int)=(n:Int):=wrap32_id (by omega) (by omega)
theorem unit_ok {R:Type} (s:ag) (hs:s.length≤9000000000000000000) (k:Int→ag→Option R) :
  di s k=match OI s with|some (v,r)=>k (v:Int) r|none=>k (-1) s:=by
 show me fI s k=_
 unfold me
 by_cases hl:s.length<4
 ·rw[aQ (show (s.length:Int)<4 by omega),cond_true]
  unfold OI
  rw[if_pos hl]
 ·rw[cv (show ¬(s.length:Int)<4 by omega),cond_false,ay (aQ (by omega))]
  have h4:(s.drop 0).take (4 - 0)=s.take 4:=rfl
  rw[h4,parse4 (by rw[List.length_take]; omega)]
  unfold OI
  rw[if_neg hl]
  cases hu:Vm (s.take 4) 0 with
  | none=>rfl
  | some v =>
   have pP:=hexN_all _ _ _ hu
   have hasc:wG (s.take 4)=true:=List.all_eq_true.2 fun b hb=>aQ (hexv_asc (pP b hb)).1
   have hno:ZB (s.take 4) [43,45,95]=false:=hasAny_none _ _ fun b hb=>by
    obtain ⟨_,g1,g2,g3⟩:=hexv_asc (pP b hb)
    have e:∀x:UInt8,b.toNat≠x.toNat→(b==x)=false:=fun x hx=>by
     rw[beq_eq_false_iff_ne]; rintro rfl; exact hx rfl
    simp only[List.contains_cons,List.contains_nil,e 43 g1,e 45 g2,e 95 g3]
    rfl
   have hv:=(Il (s:=s) (r:=s.drop 4) (v:=v) (by unfold OI; rw[if_neg hl,hu])).1
   have VA:wG ([43,45,95]:ag)=true:=by decide
   simp only
   rw[ay (by rw[hasc,VA,aQ (show (s.take 4).length<4294967281 by rw[List.length_take]; omega)]; rfl),hno,cond_false,ay (by rw[aQ (show (0:Int)≤(s.length:Int) by omega),aQ (show (s.length:Int)≤s.length by omega)]; rfl),ay (aQ (by omega))]
   rw[Rw (by omega),Int.toNat_natCast,List.take_of_length_le (by rw[List.length_drop]; exact Nat.le_refl _)]
def Vn (s:ag):Option (Nat×ag) :=
 match OI s with
 | none=>none
 | some (v,r) =>
  if v<55296∨57344≤v then some (v,r)else if 56320≤v then none
  else if ([92,117]:ag).isPrefixOf r then
   match OI (r.drop 2)with
   | none=>none
   | some (w,r2)=>if 56320≤w∧w<57344 then some (65536+(v - 55296)*1024+(w - 56320),r2)else none
  else none
theorem shl10 (n:Nat) (h:n<1024):IntKind.i32.wrap ((n:Int)*2 ^ (min 10 IntKind.i32.bits))=((n*1024:Nat):Int):=by
 have e:(n:Int)*2 ^ (min 10 IntKind.i32.bits)=((n*1024:Nat):Int):=by
  show (n:Int)*2 ^ 10=_
  omega
 rw[e,Rw (by omega)]
theorem long_ok {R:Type} (s:ag) (hs:s.length≤9000000000000000000) (k:Int→ag→Option R) :
  match Vn s with|some (c,r)=>cU s k=k (c:Int) r|none=>∃r,cU s k=k (-1) r:=by
 have e0:cU s k=mf aK di s k:=rfl
 rw[e0]
 unfold mf
 rw[unit_ok s hs]
 unfold Vn
 cases hu:OI s with
 | none =>
  simp only
  exact ⟨s,by rw[aQ (show (-1:Int)<55296 by omega),cond_true]⟩
 | some p =>
  obtain ⟨v,r⟩:=p
  obtain ⟨hv,hl,hr⟩:=Il hu
  have hrl:r.length≤9000000000000000000:=by rw[hr,List.length_drop]; omega
  simp only
  by_cases h1:v<55296
  ·rw[if_pos (.inl h1),aQ (show (v:Int)<55296 by omega)]
   simp only[cond_true]
  rw[cv (show ¬(v:Int)<55296 by omega),cond_false]
  by_cases h2:57344≤v
  ·rw[if_pos (.inr h2),aQ (show (v:Int)≥57344 by omega)]
   simp only[cond_true]
  rw[if_neg (by omega),cv (show ¬(v:Int)≥57344 by omega),cond_false]
  by_cases h3:56320≤v
  ·rw[if_pos h3]
   exact ⟨r,by rw[aQ (show (v:Int)≥56320 by omega),cond_true]⟩
  rw[if_neg h3,cv (show ¬(v:Int)≥56320 by omega),cond_false,Yt _ _ (by simp) hrl]
  cases hp:([92,117]:ag).isPrefixOf r with
  | false =>
   simp only[Bool.false_eq_true,if_false]
   exact ⟨r,rfl⟩
  | true =>
   simp only[if_true]
   have hrl2:(r.drop 2).length≤9000000000000000000:=by rw[List.length_drop]; omega
   have e2:r.drop ([92,117]:ag).length=r.drop 2:=rfl
   rw[Bool.not_true,cond_false,e2,unit_ok _ hrl2]
   cases hu2:OI (r.drop 2)with
   | none =>
    simp only
    exact ⟨r.drop 2,by rw[aQ (show (-1:Int)<56320 by omega),cond_true]⟩
   | some q =>
    obtain ⟨w,r2⟩:=q
    obtain ⟨hw,hl2,hr2⟩:=Il hu2
    simp only
    by_cases h4:56320≤w∧w<57344
    ·rw[if_pos h4]
     simp only
     rw[cv (show ¬(w:Int)<56320 by omega),cond_false,cv (show ¬(w:Int)≥57344 by omega),cond_false]
     have k1:IntKind.i32.wrap ((v:Int) - 55296)=((v - 55296:Nat):Int):=by
      have:(v:Int) - 55296=((v - 55296:Nat):Int):=by omega
      rw[this,Rw (by omega)]
     rw[k1,shl10 _ (by omega)]
     have k2:IntKind.i32.wrap (65536+(((v - 55296)*1024:Nat):Int))=((65536+(v - 55296)*1024:Nat):Int):=by
      have:65536+(((v - 55296)*1024:Nat):Int)=((65536+(v - 55296)*1024:Nat):Int):=by omega
      rw[this,Rw (by omega)]
     have k3:IntKind.i32.wrap (((65536+(v - 55296)*1024:Nat):Int)+(w:Int))=((65536+(v - 55296)*1024+w:Nat):Int):=by
      have:((65536+(v - 55296)*1024:Nat):Int)+(w:Int)=((65536+(v - 55296)*1024+w:Nat):Int):=by omega
      rw[this]
      simp only[IntKind.wrap,IntKind.bits,IntKind.signed]
      simp
      omega
     have k4:IntKind.i32.wrap (((65536+(v - 55296)*1024+w:Nat):Int) - 56320)=((65536+(v - 55296)*1024+(w - 56320):Nat):Int):=by
      have:((65536+(v - 55296)*1024+w:Nat):Int) - 56320=((65536+(v - 55296)*1024+(w - 56320):Nat):Int):=by omega
      rw[this,Rw (by omega)]
     rw[k2,k3,k4]
    ·rw[if_neg h4]
     refine ⟨r2,?_⟩
     by_cases h5:w<56320
     ·rw[aQ (show (w:Int)<56320 by omega),cond_true]
     ·rw[cv (show ¬(w:Int)<56320 by omega),cond_false,aQ (show (w:Int)≥57344 by omega),cond_true]
def escP:ag→Option (Nat×ag)
 | []=>none
 | b::t =>
  if b.toNat=34∨b.toNat=92∨b.toNat=47 then some (b.toNat,t)else if b.toNat=98 then some (8,t)else if b.toNat=102 then some (12,t)else if b.toNat=110 then some (10,t)
  else if b.toNat=114 then some (13,t)else if b.toNat=116 then some (9,t)else if b.toNat=117 then Vn t else none
theorem esc_ok {R:Type} (s:ag) (hs:s.length≤9000000000000000000) (k:Int→ag→Option R) :
  match escP s with|some (c,r)=>bq s k=k (c:Int) r|none=>∃r,bq s k=k (-1) r:=by
 have e0:bq s k=kb cU s k:=rfl
 rw[e0]
 unfold kb
 cases s with
 | nil=>exact ⟨[],rfl⟩
 | cons b t =>
  have jA:((b::t:ag)==([]:ag))=false:=rfl
  simp only[List.length_cons]at hs
  have ht:(((b::t:ag).drop 1).take (((b::t:ag).length:Int).toNat - 1))=t:=by
   rw[Int.toNat_natCast,List.drop_succ_cons,List.drop_zero,List.length_cons,Nat.add_sub_cancel,List.take_length]
  have hg:((b::t:ag).getD 0 0).toNat=b.toNat:=rfl
  rw[jA,cond_false,ay (aQ (show (0:Int)<((b::t:ag).length:Int) by simp only[List.length_cons]; omega)),
   ay (by rw[aQ (show (0:Int)≤((b::t:ag).length:Int) by omega),aQ (show ((b::t:ag).length:Int)≤(b::t:ag).length by omega)]; rfl),
   ay (aQ (show (1:Int)≤((b::t:ag).length:Int) by simp only[List.length_cons]; omega))]
  simp only[ht,hg]
  have hb:=UInt8.toNat_lt b
  simp only[escP]
  generalize b.toNat=n at *
  have q:∀m:Nat,((n:Int)==(m:Int))=decide (n=m):=fun m=>by
   by_cases h:n=m
   ·subst h; simp
   ·have:¬((n:Int)=(m:Int)):=by omega
    simp[h,this]
  have q34:((n:Int)==34)=decide (n=34):=q 34
  have q92:((n:Int)==92)=decide (n=92):=q 92
  have q47:((n:Int)==47)=decide (n=47):=q 47
  have q98:((n:Int)==98)=decide (n=98):=q 98
  have q102:((n:Int)==102)=decide (n=102):=q 102
  have q110:((n:Int)==110)=decide (n=110):=q 110
  have q114:((n:Int)==114)=decide (n=114):=q 114
  have q116:((n:Int)==116)=decide (n=116):=q 116
  have q117:((n:Int)==117)=decide (n=117):=q 117
  simp only[q34,q92,q47,q98,q102,q110,q114,q116,q117,Rw (show n<1114112 by omega)]
  by_cases SN:n=34
  ·subst SN; simp
  by_cases h92:n=92
  ·subst h92; simp
  by_cases h47:n=47
  ·subst h47; simp
  simp only[SN,h92,h47,decide_false,cond_false,or_self,if_false]
  by_cases h98:n=98
  ·subst h98; simp
  by_cases h102:n=102
  ·subst h102; simp
  by_cases h110:n=110
  ·subst h110; simp
  by_cases h114:n=114
  ·subst h114; simp
  by_cases h116:n=116
  ·subst h116; simp
  by_cases h117:n=117
  ·subst h117
   have:=long_ok (R:=R) t (by omega) k
   simp only[decide_true,decide_false,cond_true,cond_false,if_true,show ¬((117:Nat)=98) by decide,show ¬((117:Nat)=102) by decide,show ¬((117:Nat)=110) by decide,show ¬((117:Nat)=114) by decide,show ¬((117:Nat)=116) by decide,if_false]
   exact this
  simp only[h98,h102,h110,h114,h116,h117,decide_false,cond_false,if_false]
  exact ⟨t,rfl⟩
def O5:ag := [48,49,50,51,52,53,54,55,56,57,97,98,99,100,101,102]
def rq (c:Nat):Nat:=if c=34∨c=92 then c else if c=8 then 98 else if c=12 then 102 else if c=10 then 110 else if c=13 then 114 else if c=9 then 116 else 0
def qc (c:Nat):ag:=if rq c≠0 then [92,UInt8.ofNat (rq c)]else if c<32 then [92,117,48,48,O5.getD (c / 16) 0,O5.getD (c % 16) 0]else enc c
def Vo (rs:List Nat):ag:=rs.flatMap qc
def qt (rs:List Nat):ag:=34::(Vo rs ++ [34])
theorem shortC_lt (c:Nat):rq c<256:=by unfold rq; (repeat' split) <;> omega
theorem short_ok {R:Type} (c:Nat) (k:Int→Option R):fo (c:Int) k=k (rq c:Int):=by
 show EL (c:Int) k=_
 unfold EL rq
 have b:∀n:Nat,((c:Int)==(n:Int))=decide (c=n):=fun n=>by
  by_cases h:c=n
  ·subst h; simp
  ·have:¬((c:Int)=(n:Int)):=by omega
   simp[h,this]
 have b34:((c:Int)==34)=decide (c=34):=b 34
 have b92:((c:Int)==92)=decide (c=92):=b 92
 have b8:((c:Int)==8)=decide (c=8):=b 8
 have b12:((c:Int)==12)=decide (c=12):=b 12
 have b10:((c:Int)==10)=decide (c=10):=b 10
 have b13:((c:Int)==13)=decide (c=13):=b 13
 have b9:((c:Int)==9)=decide (c=9):=b 9
 rw[b34,b92,b8,b12,b10,b13,b9]
 have w:IntKind.u8.wrap (c:Int)=((c % 256:Nat):Int):=wrap8 c
 by_cases SN:c=34
 ·subst SN; rfl
 by_cases h92:c=92
 ·subst h92; rfl
 simp only[SN,h92,decide_false,cond_false,or_self,if_false]
 by_cases h8:c=8
 ·subst h8; rfl
 by_cases h12:c=12
 ·subst h12; rfl
 by_cases h10:c=10
 ·subst h10; rfl
 by_cases h13:c=13
 ·subst h13; rfl
 by_cases h9:c=9
 ·subst h9; rfl
 simp[h8,h12,h10,h13,h9]
theorem runeAt_drop (s:ag) (pos:Nat):mo s pos=decodeL (s.drop pos):=by
 unfold mo
 exact (decodeL_drop ⟨s.toArray⟩ pos).symm
theorem enc_head (rs:List Nat) (c:Nat) (t:List Nat):fp (rs++c::t)=fp rs++(enc c++fp t):=by simp[fp]
theorem hexdig:∀c:Fin 32,(Int.fdiv (c.val:Int) (2 ^ (min 4 IntKind.i32.bits)))=((c.val / 16:Nat):Int)∧IntKind.i32.wrap ((BitVec.ofInt IntKind.i32.bits (c.val:Int) &&& BitVec.ofInt IntKind.i32.bits 15).toNat:Int)=((c.val % 16:Nat):Int):=by decide +kernel
theorem qc_len {c:Nat} (hv:vr c):(qc c).length≤6:=by
 unfold qc
 split
 ·simp
 ·split
  ·simp
  ·have:=JI hv; omega
theorem quote_round {R:Type} {x:ag} {pos c:Nat} (hp:pos<x.length) {t:ag} (hd:x.drop pos=enc c++t) (hv:vr c) (o:ag) (ho:o.length≤90000000000) (fc:List Int→ag→Nat→Option R) (e0:List Int→Option R) :
  kN ad fo ae ak fc (zs o) x pos e0=fc (zs (o++qc c)) x (pos+(enc c).length):=by
 unfold kN
 have hr:mo x pos=(c,(enc c).length):=by rw[runeAt_drop,hd,U1 hv]
 rw[hr,aQ hp,cond_true]
 simp only
 rw[short_ok]
 have hlim:∀z:ag,z.length≤10→Vl (o++z):=fun z hz=>by unfold Vl; rw[List.length_append]; omega
 have hlim0:Vl o:=by unfold Vl; omega
 by_cases hs:rq c≠0
 ·have e:((rq c:Int) != 0)=true:=by
   exact bne_iff_ne.2 (by omega)
  rw[e,cond_true]
  have h92:(92:Int)=((92:UInt8).toNat:Int):=rfl
  rw[h92,wb _ o hlim0]
  have h2:(rq c:Int)=((UInt8.ofNat (rq c)).toNat:Int):=by rw[gW _ (shortC_lt c)]
  rw[h2,wb _ _ (hlim [92] (by simp))]
  have:qc c = [92,UInt8.ofNat (rq c)]:=by unfold qc; rw[if_pos hs]
  rw[this,List.append_assoc]
  rfl
 ·have hs0:rq c=0:=by omega
  have e:((rq c:Int) != 0)=false:=by rw[hs0]; rfl
  rw[e,cond_false]
  by_cases h32:c<32
  ·rw[aQ (show (c:Int)<32 by omega),cond_true,ws _ o (by simp) hlim0]
   obtain ⟨k1,k2⟩:=hexdig ⟨c,h32⟩
   simp only at k1 k2
   rw[k1,k2,ay (by rw[aQ (by omega),aQ (by omega)]; rfl)]
   rw[Int.toNat_natCast,Int.toNat_natCast,wb _ _ (hlim [92,117,48,48] (by simp)),ay (by rw[aQ (by omega),aQ (by omega)]; rfl)]
   rw[List.append_assoc o,wb _ _ (hlim _ (by simp))]
   have:qc c = [92,117,48,48,O5.getD (c / 16) 0,O5.getD (c % 16) 0]:=by unfold qc; rw[if_neg hs,if_pos h32]
   rw[this,List.append_assoc o]
   rfl
  ·rw[cv (show ¬(c:Int)<32 by omega),cond_false]
   obtain ⟨n,hn⟩:=wr hv o hlim0 (fun Gm Ej=>fc Ej x (pos+(enc c).length))
   rw[hn]
   have:qc c=enc c:=by unfold qc; rw[if_neg hs,if_neg h32]
   rw[this]
theorem quote_loop {R:Type} (rs:List Nat):∀(n:Nat) (done:List Nat) (o:ag),rs.length<n→(∀c∈rs,vr c)→(∀c∈done,vr c)→o.length+6*rs.length≤80000000000→∀e0:List Int→Option R,
  cO n (zs o) (fp (done++rs)) (fp done).length e0=e0 (zs (o++Vo rs)):=by
 induction rs with
 | nil =>
  intro n done o hn _ _ _ e0
  obtain ⟨m,rfl⟩:∃m,n=m+1:=⟨n - 1,by simp at hn; omega⟩
  show kN ad fo ae ak _ (zs o) (fp (done ++ [])) (fp done).length e0=_
  unfold kN
  rw[List.append_nil,cv (Nat.lt_irrefl _),cond_false]
  simp[Vo]
 | cons c rs ih =>
  intro n done o hn hr hd hl e0
  obtain ⟨m,rfl⟩:∃m,n=m+1:=⟨n - 1,by simp at hn; omega⟩
  have hv:=hr c (by simp)
  have he:=JI hv
  have hq:=qc_len hv
  simp only[List.length_cons]at hn hl
  show kN ad fo ae ak (fun jf jj jr=>cO m jf jj jr e0) (zs o) (fp (done++c::rs)) (fp done).length e0=_
  rw[quote_round (c:=c) (t:=fp rs) (by rw[enc_head,List.length_append,List.length_append]; omega) (by rw[enc_head,List.drop_left]) hv o (by omega)]
  have e1:done++c::rs=(done ++ [c])++rs:=by simp
  have e2:(fp done).length+(enc c).length=(fp (done ++ [c])).length:=by rw[encL_snoc,List.length_append]
  rw[e1,e2,ih m (done ++ [c]) (o++qc c) (by omega) (fun x hx=>hr x (by simp[hx])) (fun x hx=>by
   rcases List.mem_append.1 hx with h|h
   ·exact hd x h
   ·simp at h; subst h; exact hv) (by rw[List.length_append]; omega)]
  rw[List.append_assoc]
  rfl
theorem TH:∀(rs:List Nat),(∀c∈rs,vr c)→rs.length≤(fp rs).length∧(fp rs).length≤4*rs.length
 | [],_=>by simp[fp]
 | c::rs,h=>by
  have h1:=JI (h c (by simp))
  have h2:=TH rs (fun x hx=>h x (by simp[hx]))
  have:fp (c::rs)=enc c++fp rs:=by simp[fp]
  rw[this,List.length_append,List.length_cons]
  omega
theorem qcL_count:∀(rs:List Nat),(∀c∈rs,vr c)→(Vo rs).length≤6*rs.length
 | [],_=>by simp[Vo]
 | c::rs,h=>by
  have h1:=qc_len (h c (by simp))
  have h2:=qcL_count rs (fun x hx=>h x (by simp[hx]))
  have:Vo (c::rs)=qc c++Vo rs:=by simp[Vo]
  rw[this,List.length_append,List.length_cons]
  omega
theorem quote_ok {R:Type} (rs:List Nat) (hr:∀c∈rs,vr c) (hl:rs.length≤10000000000) (k:ag→Bool→Option R):eG (fp rs) k=k (qt rs) true:=by
 have hc:=TH rs hr
 have hq:=qcL_count rs hr
 have hw:fE (fp rs)=true:=Hx.2 ⟨rs,hr,rfl⟩
 show uV bU aj ad cO (fp rs) k=_
 unfold uV
 have q:∀(x:ag) (f:Bool→Option R),bU x f=f (fE x):=fun _ _=>rfl
 have q2:∀(x:Int) (f:List Int→Option R),aj x f=f [x]:=fun _ _=>rfl
 rw[q,hw,Bool.not_true,cond_false,q2]
 have e34:([34]:List Int)=zs [34]:=rfl
 rw[e34]
 have:=quote_loop (R:=R) rs (List.length (zs [34])+List.length (fp rs)+64) [] [34] (by omega) hr (by simp) (by simp; omega)
 rw[List.nil_append]at this
 have e0:(fp []).length=0:=rfl
 rw[e0]at this
 rw[this]
 have SN:(34:Int)=((34:UInt8).toNat:Int):=rfl
 rw[SN,wb _ _ (by unfold Vl; rw[List.length_append]; simp; omega),tR]
 rfl
theorem quote_bad {R:Type} (s:ag) (h:fE s=false) (k:ag→Bool→Option R):eG s k=k [] false:=by
 show uV bU aj ad cO s k=_
 unfold uV
 have q:∀(x:ag) (f:Bool→Option R),bU x f=f (fE x):=fun _ _=>rfl
 rw[q,h]
 rfl
def Vp (s:ag):Option (Nat×ag):=if ([92]:ag).isPrefixOf s then escP (s.drop 1)else NX s
def uq:Nat→ag→ag→Option (ag×ag)
 | 0,_,_=>none
 | n+1,s,o=>if ([34]:ag).isPrefixOf s then some (o,s.drop 1)else match Vp s with|none=>none|some (c,r)=>uq n r (o++enc c)
theorem longP_ok {s r:ag} {c:Nat} (h:Vn s=some (c,r)):vr c∧r.length+4≤s.length:=by
 unfold Vn at h
 split at h
 ·cases h
 ·rename_i v r1 hu
  obtain ⟨hv,hl,hr⟩:=Il hu
  split at h
  ·cases h
   refine ⟨by unfold vr; omega,?_⟩
   rw[hr,List.length_drop]; omega
  ·split at h
   ·cases h
   ·split at h
    ·split at h
     ·cases h
     ·rename_i w r2 hu2
      obtain ⟨hw,hl2,hr2⟩:=Il hu2
      split at h
      ·simp only[Option.some.injEq,Prod.mk.injEq]at h
       obtain ⟨hc,rfl⟩:=h
       refine ⟨by unfold vr; omega,?_⟩
       rw[hr2,hr]
       simp only[List.length_drop]
       rw[hr]at hl2
       simp only[List.length_drop]at hl2
       omega
      ·cases h
    ·cases h
theorem escP_ok {s r:ag} {c:Nat} (h:escP s=some (c,r)):vr c∧r.length<s.length:=by
 cases s with
 | nil=>cases h
 | cons b t =>
  simp only[escP]at h
  have hb:=UInt8.toNat_lt b
  split at h
  ·cases h; exact ⟨by unfold vr; omega,by simp⟩
  split at h
  ·cases h; exact ⟨by unfold vr; omega,by simp⟩
  split at h
  ·cases h; exact ⟨by unfold vr; omega,by simp⟩
  split at h
  ·cases h; exact ⟨by unfold vr; omega,by simp⟩
  split at h
  ·cases h; exact ⟨by unfold vr; omega,by simp⟩
  split at h
  ·cases h; exact ⟨by unfold vr; omega,by simp⟩
  split at h
  ·obtain ⟨h1,h2⟩:=longP_ok h
   exact ⟨h1,by simp only[List.length_cons]; omega⟩
  ·cases h
theorem plainP_ok {s r:ag} {c:Nat} (h:NX s=some (c,r)):vr c∧r.length<s.length:=by
 unfold NX at h
 split at h
 ·cases h
 ·rename_i jA
  split at h
  ·cases h
  ·split at h
   ·cases h
   ·cases h
    have h1:=decodeL_width s
    have h2:0<s.length:=List.length_pos_iff.2 jA
    exact ⟨dec_vr s,by rw[List.length_drop]; omega⟩
theorem aac {s r:ag} {c:Nat} (h:Vp s=some (c,r)):vr c∧r.length<s.length:=by
 unfold Vp at h
 split at h
 ·obtain ⟨h1,h2⟩:=escP_ok h
  exact ⟨h1,by rw[List.length_drop]at h2; omega⟩
 ·exact plainP_ok h
theorem uq_fuel:∀(n m:Nat) (s o:ag),s.length<n→s.length<m→uq n s o=uq m s o
 | 0,_,_,_,h,_=>by omega
 | _+1,0,_,_,_,h=>by omega
 | n+1,m+1,s,o,hn,hm=>by
  unfold uq
  split
  ·rfl
  ·cases hs:Vp s with
   | none=>rfl
   | some p =>
    obtain ⟨c,r⟩:=p
    obtain ⟨_,h2⟩:=aac hs
    exact uq_fuel n m r _ (by omega) (by omega)
theorem unq_loop {R:Type} (x:ag) (e0:ag→ag→List Int→Option R) (e1:ag→ag→Int→Bool→ag→List Int→Option R):∀(n:Nat) (s o:ag),s.length<n→o.length+4*s.length≤90000000000 →
  (match uq n s o with
   | some (o',r)=>bw n x s (zs o) e0 e1=e0 x r (zs o')
   | none=>∃a b,bw n x s (zs o) e0 e1=e1 x [] 0 false a b):=by
 intro n
 induction n with
 | zero=>intro s o h; omega
 | succ n ih =>
  intro s o h hb
  have hL:bw (n+1) x s (zs o) e0 e1=rZ ak aK bV bq (fun jf jj jr=>bw n jf jj jr e0 e1) x s (zs o) e0 e1:=rfl
  rw[hL]
  unfold rZ
  rw[Yt _ _ (by simp) (by omega)]
  simp only[uq]
  have hlim:Vl o:=by unfold Vl; omega
  by_cases SN:([34]:ag).isPrefixOf s=true
  ·rw[if_pos SN,if_pos SN]
   rfl
  ·rw[if_neg SN,if_neg SN,Bool.not_false,cond_true,Yt _ _ (by simp) (by omega)]
   have fin:∀(c:Nat) (r:ag),vr c→r.length<s.length →
     (match uq n r (o++enc c)with
      | some (o',r')=>bw n x r (zs (o++enc c)) e0 e1=e0 x r' (zs o')
      | none=>∃a b,bw n x r (zs (o++enc c)) e0 e1=e1 x [] 0 false a b):=fun c r hv hr=>by
    have:=JI hv
    exact ih r (o++enc c) (by omega) (by rw[List.length_append]; omega)
   unfold Vp
   by_cases h92:([92]:ag).isPrefixOf s=true
   ·rw[if_pos h92,if_pos h92]
    have e1':s.drop ([92]:ag).length=s.drop 1:=rfl
    rw[e1',cond_true]
    have hk:=esc_ok (R:=R) (s.drop 1) (by rw[List.length_drop]; omega) (fun ug zj=>bif (decide (ug<(0:Int)))then (e1 x ([]:ag) 0 false zj (zs o))else (ak ug (zs o) (fun FW Gm=>bw n x zj Gm e0 e1)))
    cases he:escP (s.drop 1)with
    | none =>
     rw[he]at hk
     obtain ⟨r,hk⟩:=hk
     exact ⟨r,zs o,hk.trans (by rw[aQ (show (-1:Int)<0 by omega),cond_true])⟩
    | some p =>
     obtain ⟨c,r⟩:=p
     rw[he]at hk
     obtain ⟨hv,hr⟩:=escP_ok he
     rw[List.length_drop]at hr
     simp only at hk ⊢
     rw[hk,cv (show ¬(c:Int)<0 by omega),cond_false]
     obtain ⟨q,hq⟩:=wr hv o hlim (fun FW Gm=>bw n x r Gm e0 e1)
     rw[hq]
     exact fin c r hv (by omega)
   ·rw[if_neg h92,if_neg h92,cond_false]
    have hk:=plain_ok (R:=R) s (by omega) (fun Ej Ar=>bif (decide (Ej<(0:Int)))then (e1 x ([]:ag) 0 false Ar (zs o))else (ak Ej (zs o) (fun K2 J9=>bw n x Ar J9 e0 e1)))
    cases he:NX s with
    | none =>
     rw[he]at hk
     simp only at hk ⊢
     exact ⟨s,zs o,hk.trans (by rw[aQ (show (-1:Int)<0 by omega),cond_true])⟩
    | some p =>
     obtain ⟨c,r⟩:=p
     rw[he]at hk
     obtain ⟨hv,hr⟩:=plainP_ok he
     simp only at hk ⊢
     rw[hk,cv (show ¬(c:Int)<0 by omega),cond_false]
     obtain ⟨q,hq⟩:=wr hv o hlim (fun K2 J9=>bw n x r J9 e0 e1)
     rw[hq]
     exact fin c r hv (by omega)
def uqS (s:ag):Option (ag×ag):=if ([34]:ag).isPrefixOf s then uq (s.length+1) (s.drop 1) []else none
theorem unquote_ok {R:Type} (s:ag) (hs:s.length≤20000000000) (k:ag→Int→Bool→Option R) :
  fW s k=match uqS s with|some (o,r)=>k o (IntKind.i64.wrap ((s.length:Int) - (r.length:Int))) true|none=>k [] 0 false:=by
 have e:fW s k=Ac aK bw s k:=rfl
 rw[e]
 unfold Ac uqS
 rw[Yt _ _ (by simp) (by omega)]
 by_cases SN:([34]:ag).isPrefixOf s=true
 ·rw[if_pos SN,if_pos SN,Bool.not_true,cond_false]
  have e1:s.drop ([34]:ag).length=s.drop 1:=rfl
  rw[e1]
  have hd:(s.drop 1).length≤s.length:=by rw[List.length_drop]; omega
  have key:=unq_loop (R:=R) s (fun Pz Li C6=>k (wm C6) (IntKind.i64.wrap ((Pz.length:Int) - (Li.length:Int))) true) (fun Yr Sn y24 AY I1 FJ=>k Sn y24 AY) (List.length s+List.length (s.drop 1)+List.length ([]:List Int)+64) (s.drop 1) [] (by omega) (by simp only[List.length_nil]; omega)
  rw[uq_fuel _ (s.length+1) (s.drop 1) [] (by omega) (by omega)]at key
  cases hu:uq (s.length+1) (s.drop 1) []with
  | none =>
   rw[hu]at key
   obtain ⟨a,b,key⟩:=key
   exact key
  | some p =>
   obtain ⟨o,r⟩:=p
   rw[hu]at key
   simp only at key ⊢
   refine Eq.trans key ?_
   rw[tR]
 ·rw[if_neg SN,if_neg SN]
  rfl
theorem aad (a b:UInt8) (t:ag):([a]:ag).isPrefixOf (b::t)=(a==b):=by
 simp[List.isPrefixOf]
theorem hex_back:∀c:Fin 32,Vm [48,48,O5.getD (c.val / 16) 0,O5.getD (c.val % 16) 0] 0=some c.val:=by decide +kernel
theorem u8_ne {b:UInt8} {n:Nat} (hn:n<256) (h:b.toNat≠n):((UInt8.ofNat n)==b)=false:=by
 rw[beq_eq_false_iff_ne]
 rintro rfl
 rw[gW n hn]at h
 exact h rfl
theorem enc_first {c:Nat} (hv:vr c) (h:32≤c) (SN:c≠34) (h92:c≠92):∃b t,enc c=b::t∧b.toNat≠34∧b.toNat≠92:=by
 have je:=vr_lt hv
 rcases Lw hv with ⟨h1,e⟩|⟨h0,h1,e⟩|⟨h0,h1,e⟩|⟨h0,e⟩
 ·exact ⟨_,_,e,by rw[gW _ (by omega)]; exact SN,by rw[gW _ (by omega)]; exact h92⟩
 ·exact ⟨_,_,e,by rw[gW _ (by omega)]; omega,by rw[gW _ (by omega)]; omega⟩
 ·exact ⟨_,_,e,by rw[gW _ (by omega)]; omega,by rw[gW _ (by omega)]; omega⟩
 ·exact ⟨_,_,e,by rw[gW _ (by omega)]; omega,by rw[gW _ (by omega)]; omega⟩
theorem shortC_cases (c:Nat):(rq c=0∧c≠34∧c≠92)∨c=34∨c=92∨c=8∨c=12∨c=10∨c=13∨c=9:=by
 unfold rq
 by_cases h1:c=34 <;> by_cases h2:c=92 <;> by_cases h3:c=8 <;> by_cases h4:c=12 <;> by_cases h5:c=10 <;> by_cases h6:c=13 <;> by_cases h7:c=9 <;> simp[h1,h2,h3,h4,h5,h6,h7]
theorem qc_hex {c:Nat} (h0:rq c=0) (h:c<32):qc c = [92,117,48,48,O5.getD (c / 16) 0,O5.getD (c % 16) 0]:=by unfold qc; rw[if_neg (by omega),if_pos h]
theorem qc_enc {c:Nat} (h0:rq c=0) (h:¬c<32):qc c=enc c:=by unfold qc; rw[if_neg (by omega),if_neg h]
theorem step_qc {c:Nat} (hv:vr c) (t:ag):([34]:ag).isPrefixOf (qc c++t)=false∧Vp (qc c++t)=some (c,t):=by
 rcases shortC_cases c with ⟨h0,SN,h92⟩|rfl|rfl|rfl|rfl|rfl|rfl|rfl
 ·by_cases h32:c<32
  ·rw[qc_hex h0 h32]
   refine ⟨rfl,?_⟩
   have hb:=hex_back ⟨c,h32⟩
   simp only at hb
   show Vn (48::48::O5.getD (c / 16) 0::O5.getD (c % 16) 0::t)=some (c,t)
   have hu:OI (48::48::O5.getD (c / 16) 0::O5.getD (c % 16) 0::t)=some (c,t):=by
    unfold OI
    rw[if_neg (by simp only[List.length_cons]; omega)]
    have e:List.take 4 (48::48::O5.getD (c / 16) 0::O5.getD (c % 16) 0::t) = [48,48,O5.getD (c / 16) 0,O5.getD (c % 16) 0]:=rfl
    rw[e,hb]
    rfl
   unfold Vn
   rw[hu]
   simp only
   rw[if_pos (.inl (by omega))]
  ·rw[qc_enc h0 h32]
   obtain ⟨b,u,e,g1,g2⟩:=enc_first hv (by omega) SN h92
   have e2:enc c++t=b::(u++t):=by rw[e]; rfl
   refine ⟨?_,?_⟩
   ·rw[e2,aad]
    exact u8_ne (n:=34) (by omega) g1
   ·unfold Vp
    have:([92]:ag).isPrefixOf (enc c++t)=false:=by
     rw[e2,aad]
     exact u8_ne (n:=92) (by omega) g2
    rw[this]
    simp only[Bool.false_eq_true,if_false]
    unfold NX
    rw[if_neg (enc_ne hv t),U1 hv t]
    simp only
    have hg:=good_enc hv t
    unfold good at hg
    rw[U1 hv t]at hg
    simp only at hg
    rw[if_neg hg,if_neg h32,List.drop_left]
 ·exact ⟨rfl,rfl⟩
 ·exact ⟨rfl,rfl⟩
 ·exact ⟨rfl,rfl⟩
 ·exact ⟨rfl,rfl⟩
 ·exact ⟨rfl,rfl⟩
 ·exact ⟨rfl,rfl⟩
 ·exact ⟨rfl,rfl⟩
theorem uq_qc:∀(rs:List Nat),(∀c∈rs,vr c)→∀(n:Nat) (o more:ag),rs.length<n→uq n (Vo rs++34::more) o=some (o++fp rs,more)
 | [],_,n,o,more,hn=>by
  obtain ⟨m,rfl⟩:∃m,n=m+1:=⟨n - 1,by simp at hn; omega⟩
  have:Vo []++34::more=34::more:=rfl
  rw[this]
  simp[uq,List.isPrefixOf,fp]
 | c::rs,hr,n,o,more,hn=>by
  obtain ⟨m,rfl⟩:∃m,n=m+1:=⟨n - 1,by simp at hn; omega⟩
  have hv:=hr c (by simp)
  have e:Vo (c::rs)++34::more=qc c++(Vo rs++34::more):=by simp[Vo]
  obtain ⟨h1,h2⟩:=step_qc hv (Vo rs++34::more)
  rw[e]
  simp only[uq,h1,h2,Bool.false_eq_true,if_false]
  rw[uq_qc rs (fun x hx=>hr x (by simp[hx])) m (o++enc c) more (by simp at hn; omega)]
  simp[fp]
theorem qc_pos {c:Nat} (hv:vr c):1≤(qc c).length:=by
 unfold qc
 split
 ·simp
 ·split
  ·simp
  ·exact (JI hv).1
theorem qcL_pos:∀(rs:List Nat),(∀c∈rs,vr c)→rs.length≤(Vo rs).length
 | [],_=>by simp[Vo]
 | c::rs,h=>by
  have h1:=qc_pos (h c (by simp))
  have h2:=qcL_pos rs (fun x hx=>h x (by simp[hx]))
  have:Vo (c::rs)=qc c++Vo rs:=by simp[Vo]
  rw[this,List.length_append,List.length_cons]
  omega
theorem uqS_qt (rs:List Nat) (hr:∀c∈rs,vr c) (more:ag):uqS (qt rs++more)=some (fp rs,more):=by
 have e:qt rs++more=34::(Vo rs++34::more):=by unfold qt; simp
 have hq:=qcL_pos rs hr
 rw[e]
 unfold uqS
 rw[aad]
 simp only[BEq.rfl,if_true,List.drop_succ_cons,List.drop_zero]
 have:=uq_qc rs hr ((34::(Vo rs++34::more)).length+1) [] more (by simp only[List.length_cons,List.length_append]; omega)
 rw[this]
 rfl
theorem whole_eq {R:Type} (x:ag) (f:Bool→Option R):bU x f=f (fE x):=rfl
theorem quote_any {R:Type} (s:ag) (hl:s.length≤10000000000):(∃rs:List Nat,(∀c∈rs,vr c)∧rs.length≤s.length∧s=fp rs∧fE s=true∧∀k:ag→Bool→Option R,eG s k=k (qt rs) true) ∨
  (fE s=false∧∀k:ag→Bool→Option R,eG s k=k [] false):=by
 cases h:fE s with
 | true =>
  obtain ⟨rs,hr,rfl⟩:=Hx.1 h
  have:=TH rs hr
  exact .inl ⟨rs,hr,this.1,rfl,rfl,fun k=>quote_ok rs hr (by omega) k⟩
 | false=>exact .inr ⟨rfl,fun k=>quote_bad s h k⟩
def tail (low v n:Nat):Nat:=if v<low∨1114111<v∨(55296≤v∧v≤57343)then 0 else n
theorem eqI (n m:Nat):((n:Int)==(m:Int))=decide (n=m):=by
 by_cases h:n=m
 ·subst h; simp
 ·have:¬((n:Int)=(m:Int)):=by omega
  simp[h,this]
def qb (b:UInt8):ag :=
 if b.toNat=34∨b.toNat=92 then [92,b]else if b.toNat=8 then [92,98]else if b.toNat=9 then [92,116]else if b.toNat=10 then [92,110]else if b.toNat=12 then [92,102]else if b.toNat=13 then [92,114]
 else if b.toNat<32 then [92,117,48,48,O5.getD (b.toNat / 16) 0,O5.getD (b.toNat % 16) 0]else [b]
theorem qb_len (b:UInt8):(qb b).length≤6:=by unfold qb; (repeat' split) <;> simp
theorem Hp {b:UInt8} (h:128≤b.toNat):qb b = [b]:=by
 unfold qb
 rw[if_neg (by omega),if_neg (by omega),if_neg (by omega),if_neg (by omega),if_neg (by omega),if_neg (by omega),if_neg (by omega)]
theorem qb_enc {c:Nat} (hv:vr c):(enc c).flatMap qb=qc c:=by
 have je:=vr_lt hv
 rcases Lw hv with ⟨h1,e⟩|⟨h0,h1,e⟩|⟨h0,h1,e⟩|⟨h0,e⟩
 ·rw[e]
  simp only[List.flatMap_cons,List.flatMap_nil,List.append_nil]
  have hu:=gW c (by omega)
  unfold qb qc rq
  rw[hu]
  by_cases SN:c=34
  ·subst SN; rfl
  by_cases h92:c=92
  ·subst h92; rfl
  by_cases h8:c=8
  ·subst h8; rfl
  by_cases h9:c=9
  ·subst h9; rfl
  by_cases h10:c=10
  ·subst h10; rfl
  by_cases h12:c=12
  ·subst h12; rfl
  by_cases h13:c=13
  ·subst h13; rfl
  simp only[SN,h92,h8,h9,h10,h12,h13,or_self,if_false,ne_eq,not_true_eq_false]
  by_cases h32:c<32
  ·simp only[h32,if_true]
  ·simp only[h32,if_false]
   rw[e]
 ·have hq:qc c=enc c:=qc_enc (by unfold rq; rw[if_neg (by omega),if_neg (by omega),if_neg (by omega),if_neg (by omega),if_neg (by omega),if_neg (by omega)]) (by omega)
  rw[hq,e]
  simp only[List.flatMap_cons,List.flatMap_nil,List.append_nil]
  rw[Hp (by rw[gW _ (by omega)]; omega),Hp (by rw[gW _ (by omega)]; omega)]; rfl
 ·have hq:qc c=enc c:=qc_enc (by unfold rq; rw[if_neg (by omega),if_neg (by omega),if_neg (by omega),if_neg (by omega),if_neg (by omega),if_neg (by omega)]) (by omega)
  rw[hq,e]
  simp only[List.flatMap_cons,List.flatMap_nil,List.append_nil]
  rw[Hp (by rw[gW _ (by omega)]; omega),Hp (by rw[gW _ (by omega)]; omega),Hp (by rw[gW _ (by omega)]; omega)]; rfl
 ·have hq:qc c=enc c:=qc_enc (by unfold rq; rw[if_neg (by omega),if_neg (by omega),if_neg (by omega),if_neg (by omega),if_neg (by omega),if_neg (by omega)]) (by omega)
  rw[hq,e]
  simp only[List.flatMap_cons,List.flatMap_nil,List.append_nil]
  rw[Hp (by rw[gW _ (by omega)]; omega),Hp (by rw[gW _ (by omega)]; omega),Hp (by rw[gW _ (by omega)]; omega),Hp (by rw[gW _ (by omega)]; omega)]; rfl
theorem qb_encL:∀(rs:List Nat),(∀c∈rs,vr c)→(fp rs).flatMap qb=Vo rs
 | [],_=>rfl
 | c::rs,h=>by
  have e:fp (c::rs)=enc c++fp rs:=by simp[fp]
  have e2:Vo (c::rs)=qc c++Vo rs:=by simp[Vo]
  rw[e,e2,List.flatMap_append,qb_enc (h c (by simp)),qb_encL rs (fun x hx=>h x (by simp[hx]))]
end Go.Proofs.YtidfokedcnhahaaGreatDoor
end
