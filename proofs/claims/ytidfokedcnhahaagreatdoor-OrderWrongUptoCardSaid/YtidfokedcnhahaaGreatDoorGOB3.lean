/-
  GO, part 3 of 10.
-/
import Derived.Calls
import Derived.Orders
import Derived.ChangeKeysEq
import Derived.Test.YtidfokedcnhahaaGreatDoorGOB2
set_option linter.unusedSimpArgs false
set_option linter.unnecessarySimpa false
set_option linter.unusedVariables false
set_option linter.unusedSectionVars false
noncomputable section
namespace Go.aA
open Go.RowKit
section
variable {w w':World} {h h':aN} {c c':j8}
theorem vJ {i:Nat}:∀ {cs:List V},i∈V.yr cs↔∃(j:Nat) (v:V),cs[j]? = some v∧i∈v.ids
 | []=>by simp[V.yr]
 | v::cs=>by
  simp only[V.yr,List.mem_append,vJ (cs:=cs)];constructor
  ·rintro (h|⟨j,u,h1,h2⟩)
   ·exact ⟨0,v,rfl,h⟩
   ·exact ⟨j+1,u,h1,h2⟩
  ·rintro ⟨j,u,h1,h2⟩
   cases j with
   | zero=>simp at h1; subst h1; exact .inl h2
   | succ j=>exact .inr ⟨j,u,h1,h2⟩
theorem dx.F7 {v:V} {d:Value} (r:dx w h c v d):∀i∈v.ids,Used h i:=by
 induction r with
 | undef v=>simp[V.ids]
 | int hn=>simp[V.ids]
 | bool b=>simp[V.ids]
 | str hl=>simp[V.ids]
 | iJ=>simp[V.ids]
 | bB=>simp[V.ids]
 | fG=>simp[V.ids]
 | ql=>simp[V.ids]
 | dK=>simp[V.ids]
 | iface t v=>simp[V.ids]
 | TA hn=>simp[V.ids]
 | Su b=>simp[V.ids]
 | ptr hi _=>simpa [V.ids]using hi
 | map hi _=>simpa [V.ids]using hi
 | row hi _ _=>simpa [V.ids]using hi
 | xx hi _ _=>simpa [V.ids]using hi
 | yq hi _=>simpa [V.ids]using hi
 | Br f hc _ ih =>
  intro i hi;simp only[V.ids]at hi;obtain ⟨j,v,h1,h2⟩:=vJ.1 hi;exact ih j v h1 i h2
 | @sl T l t A cap f jd uP hc hr E0 mz ih =>
  intro i hi;cases t with
  | no=>simp[V.ids]at hi
  | nil=>simp[V.ids]at hi
  | own j=>simp[V.ids]at hi; subst hi; exact (mz i rfl).1
 | YZ hn uP f hc _ ih =>
  intro i hi;simp only[V.ids]at hi;obtain ⟨j,v,h1,h2⟩:=vJ.1 hi;exact ih j v h1 i h2
 | @func f a b x y ha hb _ _ iha ihb =>
  intro i hi;simp only[V.ids,List.mem_append]at hi;rcases hi with hi|hi
  ·obtain ⟨j,v,h1,h2⟩:=vJ.1 hi;have hj:=(List.getElem?_eq_some_iff.1 h1).1;exact iha j v _ h1 (Array.getElem?_eq_getElem (by omega)) i h2
  ·obtain ⟨j,v,h1,h2⟩:=vJ.1 hi;have hj:=(List.getElem?_eq_some_iff.1 h1).1;exact ihb j v _ h1 (Array.getElem?_eq_getElem (by omega)) i h2
 | agg hl _ ih =>
  intro i hi;simp only[V.ids]at hi;obtain ⟨j,v,h1,h2⟩:=vJ.1 hi;have hj:=(List.getElem?_eq_some_iff.1 h1).1;exact ih j v _ h1 (Array.getElem?_eq_getElem (by omega)) i h2
 | tuple hl _ ih =>
  intro i hi;simp only[V.ids]at hi;obtain ⟨j,v,h1,h2⟩:=vJ.1 hi;have hj:=(List.getElem?_eq_some_iff.1 h1).1;exact ih j v _ h1 (Array.getElem?_eq_getElem (by omega)) i h2
theorem cz.F7 {cs:List V} {ds:List Value} (r:cz w h c cs ds):∀i∈V.yr cs,Used h i:=by
 intro i hi;obtain ⟨j,v,h1,h2⟩:=vJ.1 hi;have hj:=(List.getElem?_eq_some_iff.1 h1).1;exact (r.2 j v _ h1 (List.getElem?_eq_getElem (by have:=r.1; omega))).F7 i h2
theorem WF.F7 (wf:WF w h c) (i:Nat):∀j∈(h.at i).ids,Used h j:=by
 intro j hj;cases e:h.at i with
 | cells cs =>
  rw[e]at hj;have ho:=wf.obj i (aN.gK rfl (by rw[e]; simp));rw[e]at ho;obtain ⟨b,arr,el,_,_,r⟩:=ho;exact r.F7 j hj
 | mZ v =>
  rw[e]at hj;have ho:=wf.obj i (aN.gK rfl (by rw[e]; simp));rw[e]at ho;obtain ⟨b,p,d,_,_,_,r⟩:=ho;exact r.F7 j hj
 | _=>rw[e]at hj; simp[cb.ids]at hj
theorem TN (wf:WF w h c):∀(n:Nat) (todo seen:List Nat),(∀i∈todo,Used h i)→(∀i∈seen,Used h i)→∀i∈reach h n todo seen,Used h i
 | 0,_,_,_,hs=>hs
 | n+1, [],_,_,hs=>hs
 | n+1,i::todo,seen,ht,hs=>by
  simp only[reach];split
  ·exact TN wf n _ _ (fun j hj=>ht j (by simp[hj])) hs
  ·refine TN wf n _ _ (fun j hj => ?_) (fun j hj => ?_)
   ·rcases List.mem_append.1 hj with hj|hj
    ·exact ht j (by simp[hj])
    ·exact wf.F7 i j hj
   ·rcases List.mem_append.1 hj with hj|hj
    ·exact hs j hj
    ·simp at hj; subst hj; exact ht j (by simp)
theorem yt.lt (wf:WF w h c) {b x:Nat} (ho:yt h c b x):b<w.heap.size:=by
 obtain ⟨i,f,h1,h2,_⟩:=ho;have hl:(h.at i).live:=by cases e:h.at i <;> rw[e]at h2 <;> simp_all [cb.from_,cb.live]
 exact (wf.obj i (aN.gK rfl (CZ hl))).lt hl h1
theorem live_from {o:cb} (h:o.live) (f:Nat):∃g,o.from_ f=some g:=by cases o <;> simp_all [cb.from_,cb.live]
def Vr (h:aN) (c:j8) (ord:List Nat) (b x:Nat):Prop:=∃i∈ord,∃f,c.wO i=some b∧(h.at i).from_ (c.off i)=some f∧f≤x
def extOf (h:aN) (c:j8) (ord:List Nat):ExtT:=⟨fun b x=>c.ext b x∨(yt h c b x∧¬Vr h c ord b x)⟩
theorem Vr.CF {ord:List Nat} {b x:Nat} (o:Vr h c ord b x):yt h c b x:=by obtain ⟨i,_,f,h1,h2,h3⟩:=o; exact ⟨i,f,h1,h2,h3⟩
theorem extOf_free {ord:List Nat}:∀b x,Sv h c b x→¬extOf h c ord b x:=by
 rintro b x hf (he|he)
 ·exact hf.2 he
 ·exact hf.1 he.1
theorem Xf (wf:WF w h c) {ord:List Nat} (Na:ord.Nodup):WF w (h.pick ord) (c.pick ord (extOf h c ord)):=by
 refine pick_wf wf Na extOf_free ?_ ?_
 ·rintro b x (he|he)
  ·exact wf.sB b x he
  ·exact he.1.lt wf
 ·rintro b x ho (he|he)
  ·exact wf.Ev b x (Vr.CF ho) he
  ·exact he.2 ho
theorem TO {ord:List Nat} {cs:List V} {ds:List Value} (r:cz w h c cs ds):cz w (h.pick ord) (c.pick ord (extOf h c ord)) (V.EY (EL ord) cs) ds :=
 r.sU (pick_ren extOf_free)
theorem fP:∀(l:List (Nat×cb)) (h:aN),(aN.GK h l).length=h.length
 | [],_=>rfl
 | (i,o)::l,h=>by simp[aN.GK,fP l]
theorem Ns {i:Nat}:∀(ord:List Nat) (os:List cb) (h:aN),i∉ord→aN.at (aN.GK h (ord.zip os)) i=h.at i
 | [],_,_,_=>rfl
 | _::_, [],_,_=>rfl
 | a::ord,o::os,h,hn=>by
  simp only[List.zip_cons_cons,aN.GK];rw[Ns ord os _ (fun hm=>hn (by simp[hm]))];exact cF _ (fun e=>hn (by simp[e]))
theorem Xg {i:Nat}:∀(ord:List Nat) (os:List cb) (h:aN) (j:Nat) (o:cb),ord.Nodup→ord[j]? = some i→os[j]? = some o→i<h.length→aN.at (aN.GK h (ord.zip os)) i=o
 | [],_,_,_,_,_,hj,_,_=>by simp at hj
 | _::_, [],_,_,_,_,_,ho,_=>by simp at ho
 | a::ord,p::os,h,j,o,Na,hj,ho,hi=>by
  simp only[List.zip_cons_cons,aN.GK];cases j with
  | zero =>
   simp at hj ho;subst hj; subst ho;rw[Ns ord os _ (by simpa using (List.nodup_cons.1 Na).1)];exact ma _ hi
  | succ j=>exact Xg ord os _ j o (List.nodup_cons.1 Na).2 (by simpa using hj) (by simpa using ho) (by simpa using hi)
theorem kL {a b:aN} {i:Nat} (hi:i<a.length):aN.at (a++b) i=aN.at a i:=by simp[aN.at,List.getD,List.getElem?_append_left hi]
theorem jX {a b:aN} {i:Nat} (hi:a.length≤i):aN.at (a++b) i=aN.at b (i - a.length):=by simp[aN.at,List.getD,List.getElem?_append_right hi]
theorem Vs {ord:List Nat} (Na:ord.Nodup) {i j:Nat} (e:ord[j]? = some i):EL ord i=some j:=by
 obtain ⟨hj,rfl⟩:=List.getElem?_eq_some_iff.1 e;have hm:ord[j]∈ord:=List.getElem_mem hj;have jz:ord.idxOf ord[j]<ord.length:=List.idxOf_lt_length_of_mem hm;unfold EL;simp only[jz,if_true];have hg:=List.getElem_idxOf jz;have hp:=List.pairwise_iff_getElem.1 Na;rcases Nat.lt_trichotomy (ord.idxOf ord[j]) j with hl|he|hl
 ·exact (hp _ _ jz hj hl hg).elim
 ·rw[he]
 ·exact (hp _ _ hj jz hl hg.symm).elim
theorem E7 {ord:List Nat} {i:Nat} (h:i∉ord):EL ord i=none:=by
 cases e:EL ord i with
 | none=>rfl
 | some j=>exact (h (List.mem_of_getElem? (ID e))).elim
def j8.back (c:j8) (ord:List Nat) (n:Nat) (c':j8):j8 :=
 ⟨fun i=>match EL ord i with|some j=>c'.wO j|none=>if i<n then c.wO i else c'.wO (i - n+ord.length),
  fun i=>match EL ord i with|some j=>c'.off j|none=>if i<n then c.off i else c'.off (i - n+ord.length),c.ext⟩
theorem Kf {ord:List Nat} (Na:ord.Nodup) (jz:∀i∈ord,i<h.length) (hle:ord.length≤h'.length) (i:Nat) :
  (∃j,rU ord h.length j=i∧j<h'.length∧aN.at (h.back ord h') i=(h'.at j).sU (fun j=>some (rU ord h.length j))∧(c.back ord h.length c').wO i=c'.wO j∧(c.back ord h.length c').off i=c'.off j) ∨
  (i∉ord∧i<h.length∧aN.at (h.back ord h') i=h.at i∧(c.back ord h.length c').wO i=c.wO i∧(c.back ord h.length c').off i=c.off i) ∨
  ((h.back ord h').length≤i∧aN.at (h.back ord h') i = .dead):=by
 have hlen:(h.back ord h').length=h.length+(h'.length - ord.length):=by simp[aN.back,fP]
 by_cases hm:i∈ord
 ·obtain ⟨j,hj,e⟩:=List.mem_iff_getElem.1 hm;have e':ord[j]? = some i:=by rw[List.getElem?_eq_getElem hj,e]
  have hi:=jz i hm;refine .inl ⟨j,by simp[rU,hj,List.getD,e],by omega,?_,by simp[j8.back,Vs Na e'],by simp[j8.back,Vs Na e']⟩;unfold aN.back;simp only;rw[kL (by rw[fP]; exact hi)];refine Xg ord _ h j _ Na e' ?_ hi;have hj':j<h'.length:=by omega
  simp[hj,aN.at,List.getD,List.getElem?_eq_getElem hj']
 ·by_cases hi:i<h.length
  ·refine .inr (.inl ⟨hm,hi,?_,by simp[j8.back,E7 hm,hi],by simp[j8.back,E7 hm,hi]⟩);unfold aN.back;simp only;rw[kL (by rw[fP]; exact hi)];exact Ns ord _ h hm
  ·by_cases hb:i<(h.back ord h').length
   ·rw[hlen]at hb;refine .inl ⟨i - h.length+ord.length,?_,by omega,?_,by simp[j8.back,E7 hm,hi],by simp[j8.back,E7 hm,hi]⟩
    ·have:¬(i - h.length+ord.length<ord.length):=by omega
     simp only[rU,this,if_false];omega
    ·unfold aN.back;simp only;rw[jX (by rw[fP]; omega),fP];have pX:i - h.length+ord.length<h'.length:=by omega
     have hq:ord.length+(i - h.length)=i - h.length+ord.length:=by omega
     simp[aN.at,List.getD,hq,List.getElem?_eq_getElem pX]
   ·refine .inr (.inr ⟨by omega,?_⟩);simp[aN.at,List.getD,List.getElem?_eq_none (Nat.le_of_not_lt hb)]
theorem ZQ {ord:List Nat} (Na:ord.Nodup) (jz:∀i∈ord,i<h.length) (hle:ord.length≤h'.length) (j:Nat) :
  aN.at (h.back ord h') (rU ord h.length j)=(h'.at j).sU (fun j=>some (rU ord h.length j))∧(c.back ord h.length c').wO (rU ord h.length j)=c'.wO j∧(c.back ord h.length c').off (rU ord h.length j)=c'.off j:=by
 have hlen:(h.back ord h').length=h.length+(h'.length - ord.length):=by simp[aN.back,fP]
 by_cases hj:j<ord.length
 ·have hb:rU ord h.length j=ord[j]:=by simp[rU,hj,List.getD]
  have e':ord[j]? = some ord[j]:=List.getElem?_eq_getElem hj;have hi:=jz _ (List.getElem_mem hj);rw[hb];refine ⟨?_,by simp[j8.back,Vs Na e'],by simp[j8.back,Vs Na e']⟩;unfold aN.back;simp only;rw[kL (by rw[fP]; exact hi)];refine Xg ord _ h j _ Na e' ?_ hi;have hj':j<h'.length:=by omega
  simp[hj,aN.at,List.getD,List.getElem?_eq_getElem hj']
 ·have hb:rU ord h.length j=h.length+(j - ord.length):=by simp[rU,hj]
  have hm:h.length+(j - ord.length)∉ord:=fun hm=>by have:=jz _ hm; omega
  have hn:¬(h.length+(j - ord.length)<h.length):=by omega
  have hs:h.length+(j - ord.length) - h.length+ord.length=j:=by omega
  rw[hb];refine ⟨?_,by simp only[j8.back,E7 hm,hn,if_false,hs],by simp only[j8.back,E7 hm,hn,if_false,hs]⟩;unfold aN.back;simp only;rw[jX (by rw[fP]; omega),fP];have hq:h.length+(j - ord.length) - h.length=j - ord.length:=by omega
  have hq2:ord.length+(j - ord.length)=j:=by omega
  rw[hq];by_cases hj':j<h'.length
  ·simp[aN.at,List.getD,hq2,List.getElem?_eq_getElem hj']
  ·simp[aN.at,List.getD,hq2,List.getElem?_eq_none (Nat.le_of_not_lt hj'),cb.sU]
theorem ren_sim_l {ρ:Nat→Option Nat} {o o':cb}:(o.sU ρ).iS o'↔o.iS o':=by cases o <;> cases o' <;> simp[cb.sU,cb.iS,Av]
theorem ren_sim_r {ρ:Nat→Option Nat} {o o':cb}:o.iS (o'.sU ρ)↔o.iS o':=by cases o <;> cases o' <;> simp[cb.sU,cb.iS,Av]
theorem L8 {o:cb} (h:o.live) (hm:∀K T l,o ≠ .Bs K T l∨True):o.iS o:=by cases o <;> simp_all [cb.iS,cb.live]
theorem call_back (wf:WF w h c) {ord:List Nat} (Na:ord.Nodup) (hu:∀i∈ord,Used h i) (wf':WF w' h' c') (x:Ext w (h.pick ord) (c.pick ord (extOf h c ord)) w' h' c') :
  WF w' (h.back ord h') (c.back ord h.length c')∧Ext w h c w' (h.back ord h') (c.back ord h.length c')∧RenOK (fun j=>some (rU ord h.length j)) h' c' (h.back ord h') (c.back ord h.length c'):=by
 have jz:∀i∈ord,i<h.length:=fun i hi=>(hu i hi).1
 have hup:∀j,j<ord.length→Used (h.pick ord) j:=fun j hj=>by
  refine ⟨by simpa [aN.pick]using hj,?_⟩;rw[wS,List.getElem?_eq_getElem hj];simp only[ne_eq,IE];exact (hu _ (List.getElem_mem hj)).2
 have hle:ord.length≤h'.length:=by
  rcases Nat.eq_zero_or_pos ord.length with h0|h0
  ·omega
  ·have:=(x.used _ (hup (ord.length - 1) (by omega))).1; omega
 have hlen:(h.back ord h').length=h.length+(h'.length - ord.length):=by simp[aN.back,fP]
 
 have Vn:∀b y,yt (h.back ord h') (c.back ord h.length c') b y→yt h' c' b y∨∃i f,i∉ord∧i<h.length∧c.wO i=some b∧(h.at i).from_ (c.off i)=some f∧f≤y:=by
  rintro b y ⟨i,f,h1,h2,h3⟩
  rcases Kf (c:=c) (c':=c') Na jz hle i with ⟨j,_,_,g1,g2,g3⟩|⟨g0,g1,g2,g3,g4⟩|⟨_,g1⟩
  ·rw[g2]at h1; rw[g1,g3,ren_from]at h2;exact .inl ⟨j,f,h1,h2,h3⟩
  ·rw[g3]at h1; rw[g2,g4]at h2;exact .inr ⟨i,f,g0,g1,h1,h2,h3⟩
  ·rw[g1]at h2; cases h2
 have hown':∀i f b y,i∉ord→c.wO i=some b→(h.at i).from_ (c.off i)=some f→f≤y→extOf h c ord b y:=by
  intro i f b y hi h1 h2 h3;refine .inr ⟨⟨i,f,h1,h2,h3⟩,?_⟩
  rintro ⟨i2,hm,f2,g1,g2,g3⟩
  have:=wf.inj i i2 b (wi h2) (wi g2) h1 g1;subst this;exact hi hm
 have hpick:∀b y,yt (h.pick ord) (c.pick ord (extOf h c ord)) b y→Vr h c ord b y:=fun b y ho=>L7 ho
 have hext:c'.ext=extOf h c ord:=x.ext;have hren:RenOK (fun j=>some (rU ord h.length j)) h' c' (h.back ord h') (c.back ord h.length c'):=by
  refine ⟨fun i j e hi => ?_,fun i j e hd => ?_,fun i j e ht => ?_,fun i j e T l ht => ?_,fun b y hf=>⟨fun ho => ?_,fun he => ?_⟩⟩
  ·cases e;obtain ⟨g1,_,_⟩:=ZQ (c:=c) (c':=c') Na jz hle i;refine ⟨?_,by rw[g1]; simp only[ne_eq,IE]; exact hi.2⟩;rw[hlen];unfold rU;have:=hi.1;split
   ·rename_i hj;have:=jz _ (List.getElem_mem hj);simp only[List.getD,List.getElem?_eq_getElem hj,Option.getD_some];omega
   ·omega
  ·cases e;obtain ⟨g1,g2,g3⟩:=ZQ (c:=c) (c':=c') Na jz hle i;rw[g1]at hd;simp only[ne_eq,Vq]at hd;exact ⟨hd,g2,g3⟩
  ·cases e;rw[(ZQ (c:=c) (c':=c') Na jz hle i).1]at ht;exact ren_tok.1 ht
  ·cases e;rw[(ZQ (c:=c) (c':=c') Na jz hle i).1]at ht;exact ren_row.1 ht
  ·rcases Vn b y ho with ho|⟨i,f,g0,_,g2,g3,g4⟩
   ·exact hf.1 ho
   ·exact hf.2 (by rw[hext]; exact hown' i f b y g0 g2 g3 g4)
  ·exact hf.2 (by rw[hext]; exact .inl he)
 have hx:Ext w h c w' (h.back ord h') (c.back ord h.length c'):=by
  refine ⟨x.os,x.tape,x.output,x.size,fun i hi => ?_,fun i hi hd => ?_,fun b y hb ho=>x.cell b y hb (fun o=>ho (hpick b y o).CF),fun b hb ho=>x.block b hb (fun y o=>ho y (hpick b y o).CF),fun b y hb ho => ?_,rfl,x.arr⟩
  ·rcases Kf (c:=c) (c':=c') Na jz hle i with ⟨j,g0,gj,g1,g2,g3⟩|⟨g0,g1,g2,g3,g4⟩|⟨g0,_⟩
   ·refine ⟨by have:=hi.1; omega,?_⟩;rw[g1]; simp only[ne_eq,IE];have hjo:j<ord.length:=by
     unfold rU at g0;split at g0
     ·assumption
     ·have:=hi.1; omega
    exact (x.used j (hup j hjo)).2
   ·exact ⟨by omega,by rw[g2]; exact hi.2⟩
   ·have:=hi.1; omega
  ·rcases Kf (c:=c) (c':=c') Na jz hle i with ⟨j,g0,gj,g1,g2,g3⟩|⟨g0,g1,g2,g3,g4⟩|⟨g0,_⟩
   ·have hjo:j<ord.length:=by
     unfold rU at g0;split at g0
     ·assumption
     ·have:=hi.1; omega
    have e:ord[j]? = some i:=by
     simp only[rU,hjo,if_true,List.getD,List.getElem?_eq_getElem hjo,Option.getD_some]at g0;rw[List.getElem?_eq_getElem hjo,g0]
    rw[g1]at hd ⊢;simp only[ne_eq,Vq]at hd;obtain ⟨s1,s2,s3⟩:=x.same j (hup j hjo) hd;rw[wS,e]at s1;rw[g2,g3,s2,s3];exact ⟨ren_sim_r.2 (ren_sim_l.1 s1),by simp[j8.pick,e],by simp[j8.pick,List.getD,e]⟩
   ·rw[g2]at hd ⊢;exact ⟨L8 (R1 hi.2 hd) (fun _ _ _ => .inr trivial),g3,g4⟩
   ·have:=hi.1; omega
  ·rcases Vn b y ho with ho|⟨i,f,g0,_,g2,g3,g4⟩
   ·exact (hpick b y (x.CF b y hb ho)).CF
   ·exact ⟨i,f,g2,g3,g4⟩
 refine ⟨⟨fun b y ho he => ?_,fun b y he=>Nat.lt_of_lt_of_le (wf.sB b y he) x.size,fun i hi => ?_,fun i j b hi hj h1 h2 => ?_,wf.wQ hx⟩,hx,hren⟩
 ·rcases Vn b y ho with ho|⟨i,f,g0,_,g2,g3,g4⟩
  ·exact wf'.Ev b y ho (by rw[hext]; exact .inl he)
  ·exact wf.Ev b y ⟨i,f,g2,g3,g4⟩ he
 ·rcases Kf (c:=c) (c':=c') Na jz hle i with ⟨j,g0,gj,g1,g2,g3⟩|⟨g0,g1,g2,g3,g4⟩|⟨_,g0⟩
  ·rw[g1];exact (wf'.obj j gj).sU hren g2 g3
  ·rw[g2];by_cases hl:(h.at i).live
   ·refine (wf.obj i g1).Ar hx (fun b hb=>x.block b ((wf.obj i g1).lt hl hb) fun y o => ?_) g3 g4;obtain ⟨i2,hm,f2,k1,k2,_⟩:=hpick b y o;have:=wf.inj i i2 b hl (wi k2) hb k1;subst this;exact g0 hm
   ·have h0:h.at i = .free∨h.at i = .dead:=by revert hl; cases h.at i <;> simp[cb.live]
    rcases h0 with h0|h0 <;> rw[h0] <;> trivial
  ·rw[g0]; trivial
 ·have key:∀i j b,i∉ord→(h.at i).live→c.wO i=some b→(h'.at j).live→c'.wO j=some b→False:=by
   intro i j b hi hl hb hl' pX;have hbl:=(wf.obj i (aN.gK rfl (CZ hl))).lt hl hb;obtain ⟨f,hf⟩:=live_from hl' (c'.off j);obtain ⟨i2,hm,f2,k1,k2,_⟩:=hpick b f (x.CF b f hbl ⟨j,f,pX,hf,Nat.le_refl _⟩);have:=wf.inj i i2 b hl (wi k2) hb k1;subst this;exact hi hm
  rcases Kf (c:=c) (c':=c') Na jz hle i with ⟨i',a0,_,a1,a2,a3⟩|⟨a0,a1,a2,a3,a4⟩|⟨_,a0⟩
  ·rcases Kf (c:=c) (c':=c') Na jz hle j with ⟨j',b0,_,b1,b2,b3⟩|⟨b0,b1,b2,b3,b4⟩|⟨_,b0⟩
   ·rw[a1,L6]at hi; rw[b1,L6]at hj;rw[a2]at h1; rw[b2]at h2;rw[←a0,←b0,wf'.inj i' j' b hi hj h1 h2]
   ·rw[a1,L6]at hi; rw[b2]at hj;rw[a2]at h1; rw[b3]at h2;exact (key j i' b b0 hj h2 hi h1).elim
   ·rw[b0]at hj; exact hj.elim
  ·rcases Kf (c:=c) (c':=c') Na jz hle j with ⟨j',b0,_,b1,b2,b3⟩|⟨b0,b1,b2,b3,b4⟩|⟨_,b0⟩
   ·rw[a2]at hi; rw[b1,L6]at hj;rw[a3]at h1; rw[b2]at h2;exact (key i j' b a0 hi h1 hj h2).elim
   ·rw[a2]at hi; rw[b2]at hj;rw[a3]at h1; rw[b3]at h2;exact wf.inj i j b hi hj h1 h2
   ·rw[b0]at hj; exact hj.elim
  ·rw[a0]at hi; exact hi.elim
end
section
variable {tt:dn} {h:aN} {R:Type}
theorem Ij {t off:Nat} {cs:List V} {k0:V→Option R} {r:R} (hk:wN tt t cs off k0=some r) :
  ∃v,k0 v=some r∧∀k:V→Option R,wN tt t cs off k=k v:=by
 unfold wN at hk;split at hk
 ·rename_i sR;split at hk
  ·rename_i hagg;split at hk
   ·rename_i rV;exact ⟨_,hk,fun k=>by simp[wN,sR,hagg,rV]⟩
   ·cases hk
  ·rename_i hagg;split at hk
   ·rename_i v hv;exact ⟨_,hk,fun k=>by simp[wN,sR,hagg,hv]⟩
   ·cases hk
 ·cases hk
theorem Vt {op:BinOp} {x y:V} {k0:V→Option R} {r:R} (hk:Eu op x y k0=some r) :
  ∃v,k0 v=some r∧∀k:V→Option R,Eu op x y k=k v:=by
 unfold Eu at hk;split at hk
 ·obtain ⟨hb,hk⟩:=bY hk;exact ⟨_,hk,fun k=>by simp[Eu,bX,hb]⟩
 ·obtain ⟨hb,hk⟩:=bY hk;exact ⟨_,hk,fun k=>by simp[Eu,bX,hb]⟩
 ·split at hk
  ·rename_i B7;subst B7;split at hk <;> first
    | (exact ⟨_,hk,fun k=>by simp[Eu]⟩)
    | (obtain ⟨hb,hk⟩:=bY hk; exact ⟨_,hk,fun k=>by simp only[Eu,hb,bX,cond_true,if_true]⟩)
    | cases hk
  ·cases hk
 ·split at hk <;> first
    | (exact ⟨_,hk,fun k=>by simp[Eu]⟩)
    | (obtain ⟨hb,hk⟩:=bY hk; exact ⟨_,hk,fun k=>by simp only[Eu,hb,bX,cond_true]⟩)
    | cases hk
 ·split at hk
  ·exact ⟨_,hk,fun k=>by simp[Eu, *]⟩
  ·cases hk
 ·split at hk
  ·exact ⟨_,hk,fun k=>by simp[Eu, *]⟩
  ·cases hk
 ·cases hk
theorem ptrK_nat {op:BinOp} {x y:V} {k0:V→Option R} {r:R} (hk:ptrK op x y k0=some r) :
  ∃v,k0 v=some r∧∀k:V→Option R,ptrK op x y k=k v:=by
 unfold ptrK at hk;split at hk
 ·split at hk
  ·exact ⟨_,hk,fun k=>by simp[ptrK, *]⟩
  ·exact ⟨_,hk,fun k=>by simp[ptrK, *]⟩
  ·cases hk
 ·cases hk
theorem ifK_nat {op:BinOp} {o:Operand} {x y:V} {k0:V→Option R} {r:R} (hk:ifK op o x y k0=some r) :
  ∃v,k0 v=some r∧∀k:V→Option R,ifK op o x y k=k v:=by
 unfold ifK at hk;split at hk <;> first|(exact ⟨_,hk,fun k=>by simp[ifK]⟩)|cases hk
theorem nilOf_nat {a:V} {neg:Bool} {k0:V→Option R} {r:R} (hk:Pa a (fun r=>k0 (aaj neg r))=some r) :
  ∃v,k0 v=some r∧∀k:V→Option R,Pa a (fun r=>k (aaj neg r))=k v:=by
 unfold Pa at hk;split at hk <;> try cases hk
 ·exact ⟨_,hk,fun k=>by simp[Pa]⟩
 ·rename_i l _;cases hl:l.isEmpty with
  | true=>rw[hl]at hk; exact ⟨_,hk,fun k=>by simp only[Pa,hl]; rfl⟩
  | false=>rw[hl]at hk; exact ⟨_,hk,fun k=>by simp only[Pa,hl]; rfl⟩
 ·rename_i n;cases hl:decide (n=0)with
  | true=>rw[hl]at hk; exact ⟨_,hk,fun k=>by simp only[Pa,hl]; rfl⟩
  | false=>rw[hl]at hk; exact ⟨_,hk,fun k=>by simp only[Pa,hl]; rfl⟩
theorem slK_nat {op:BinOp} {x y:V} {k0:V→Option R} {r:R} (hk:slK op x y k0=some r) :
  ∃v,k0 v=some r∧∀k:V→Option R,slK op x y k=k v:=by
 unfold slK at hk;split at hk
 ·split at hk
  ·obtain ⟨v,h1,h2⟩:=nilOf_nat hk;exact ⟨v,h1,fun k=>by simp[slK,h2]⟩
  ·obtain ⟨v,h1,h2⟩:=nilOf_nat hk;exact ⟨v,h1,fun k=>by simp[slK,h2]⟩
  ·cases hk
 ·cases hk
theorem F8 {v:Option V} {d:Int} {k0:Int→Option R} {r:R} (hk:K5 v d k0=some r) :
  ∃n,k0 n=some r∧∀k:Int→Option R,K5 v d k=k n:=by
 unfold K5 at hk;split at hk
 ·exact ⟨_,hk,fun k=>rfl⟩
 ·exact ⟨_,hk,fun k=>rfl⟩
 ·cases hk
theorem opP_nat {o:Op} {ρ:Operand→V} {k0:V→Option R} {r:R} (hk:opP tt o ρ k0=some r) :
  ∃v,k0 v=some r∧∀k:V→Option R,opP tt o ρ k=k v:=by
 cases o <;> simp only[opP]at hk ⊢ <;> (try cases hk)
 case move x=>exact ⟨_,hk,fun k=>rfl⟩
 case assign x=>exact ⟨_,hk,fun k=>rfl⟩
 case pick c a b =>
  split at hk
  ·rename_i t ht;split at hk
   ·rename_i u v hu hv;exact ⟨_,hk,fun k=>by simp[ht,hu,hv]⟩
   ·rename_i u v hn;refine ⟨bif t then ρ a else ρ b,by cases t <;> exact hk,fun k => ?_⟩;cases t <;> rfl
  ·cases hk
 case nilCheck x =>
  split at hk <;> first|(exact ⟨_,hk,fun k=>by simp[*]⟩)|cases hk
 case binOp op t x y _ =>
  split at hk
  ·split at hk
   ·obtain ⟨v,h1,h2⟩:=Vt hk;exact ⟨v,h1,fun k=>by simp[*]⟩
   ·cases hk
  ·split at hk
   ·obtain ⟨v,h1,h2⟩:=Vt hk;exact ⟨v,h1,fun k=>by simp[*]⟩
   ·cases hk
  ·obtain ⟨v,h1,h2⟩:=Vt hk;exact ⟨v,h1,fun k=>by simp[*]⟩
  ·obtain ⟨v,h1,h2⟩:=Vt hk;exact ⟨v,h1,fun k=>by simp[*]⟩
  ·rename_i n1 n2 n3 n4;split at hk
   ·rename_i hd;obtain ⟨v,h1,h2⟩:=ptrK_nat hk;exact ⟨v,h1,fun k=>by simp[*]⟩
   ·rename_i hd;obtain ⟨v,h1,h2⟩:=slK_nat hk;exact ⟨v,h1,fun k=>by simp[*]⟩
   ·rename_i hd;obtain ⟨v,h1,h2⟩:=ifK_nat hk;exact ⟨v,h1,fun k=>by simp[*]⟩
   ·cases hk
 case unOp op _ x =>
  split at hk <;> first|(exact ⟨_,hk,fun k=>by simp[*]⟩)|cases hk
 case makeInterface t x =>
  split at hk <;> first|(exact ⟨_,hk,fun k=>by simp[*]⟩)|cases hk
 case convert s d x =>
  split at hk
  ·cases hk
  ·split at hk
   ·exact ⟨_,hk,fun k=>by simp[*]⟩
   ·split at hk
    ·exact ⟨_,hk,fun k=>by simp[*]⟩
    ·cases hk
   ·cases hk
 case fieldAddr s x f =>
  split at hk <;> (try cases hk);split at hk <;> (try cases hk);split at hk <;> (try cases hk);split at hk <;> first|(exact ⟨_,hk,fun k=>by simp_all⟩)|cases hk
 case field s x f =>
  split at hk <;> (try cases hk);split at hk <;> (try cases hk);obtain ⟨v,h1,h2⟩:=Ij hk;exact ⟨v,h1,fun k=>by simp[*]⟩
 case indexAddr t x i =>
  unfold idxOf at hk ⊢;split at hk <;> (try cases hk);split at hk <;> (try cases hk)
  ·split at hk <;> (try cases hk);obtain ⟨hb,hk⟩:=bY hk;exact ⟨_,hk,fun k=>by simp_all [bX]⟩
  ·split at hk <;> (try cases hk);obtain ⟨hb,hk⟩:=bY hk;exact ⟨_,hk,fun k=>by simp_all [bX]⟩
  ·split at hk <;> (try cases hk);obtain ⟨hb,hk⟩:=bY hk;exact ⟨_,hk,fun k=>by simp_all [bX]⟩
  ·split at hk <;> (try cases hk);rename_i hc;obtain ⟨hb,hk⟩:=bY hk;exact ⟨_,hk,fun k=>by simp only[*,if_true,bX,cond_true]⟩
 case index t x i =>
  unfold idxOf at hk ⊢;split at hk <;> (try cases hk);split at hk <;> (try cases hk)
  ·obtain ⟨hb,hk⟩:=bY hk;exact ⟨_,hk,fun k=>by simp_all [bX]⟩
  ·obtain ⟨hb,hk⟩:=bY hk;obtain ⟨v,h1,h2⟩:=Ij hk;exact ⟨v,h1,fun k=>by simp_all [bX]⟩
 case slice t x lo hi mx =>
  split at hk <;> (try cases hk);split at hk <;> (try cases hk)
  ·rename_i hd hx;obtain ⟨n,hk,e1⟩:=F8 hk;obtain ⟨m,hk,e2⟩:=F8 hk;obtain ⟨hb,hk⟩:=bY hk;obtain ⟨WZ,hk⟩:=bY hk;exact ⟨_,hk,fun k=>by simp only[hd,hx,e1,e2,hb,WZ,bX,cond_true]⟩
  ·rename_i hd hx;split at hk <;> (try cases hk);rename_i hc;obtain ⟨n,hk,e1⟩:=F8 hk;split at hk
   ·obtain ⟨hb,hk⟩:=bY hk;exact ⟨_,hk,fun k=>by simp only[hd,hx,hc,e1,hb,bX,cond_true,if_true]⟩
   ·obtain ⟨m,hk,e2⟩:=F8 hk;obtain ⟨hb,hk⟩:=bY hk;obtain ⟨WZ,hk⟩:=bY hk;exact ⟨_,hk,fun k=>by simp only[hd,hx,hc,e1,e2,hb,WZ,bX,cond_true,if_true]⟩
  ·rename_i hd hx;split at hk <;> (try cases hk);rename_i hc;obtain ⟨n,hk,e1⟩:=F8 hk;obtain ⟨m,hk,e2⟩:=F8 hk;obtain ⟨hb,hk⟩:=bY hk;exact ⟨_,hk,fun k=>by rw[if_neg hc]; simp only[e1,e2,hb,bX,cond_true]⟩
  ·rename_i hd hx;split at hk <;> (try cases hk);rename_i hc;obtain ⟨n,hk,e1⟩:=F8 hk;obtain ⟨m,hk,e2⟩:=F8 hk;obtain ⟨hb,hk⟩:=bY hk;obtain ⟨WZ,hk⟩:=bY hk;exact ⟨_,hk,fun k=>by rw[if_neg hc]; simp only[e1,e2,hb,WZ,bX,cond_true]⟩
 case makeFunc f first cap =>
  cases f <;> simp only at hk ⊢ <;> first|(exact ⟨_,hk,fun k=>rfl⟩)|cases hk
 case extract t i =>
  split at hk <;> (try cases hk);split at hk <;> (try cases hk);exact ⟨_,hk,fun k=>by simp[*]⟩
 case build t parts =>
  split at hk <;> (try cases hk)
  all_goals
   rename_i hd;split at hk <;> (try cases hk);rename_i hc;split at hk <;> (try cases hk);rename_i hf;exact ⟨_,hk,fun k=>by rw[if_neg hc]⟩
 case call c =>
  split at hk <;> (try cases hk)
  ·split at hk <;> (try cases hk);split at hk <;> (try cases hk)
   all_goals exact ⟨_,hk,fun k=>by simp[*]⟩
  ·split at hk <;> (try cases hk);split at hk <;> (try cases hk);exact ⟨_,hk,fun k=>by simp[*]⟩
  ·split at hk <;> (try cases hk);split at hk <;> (try cases hk);exact ⟨_,hk,fun k=>by simp[*]⟩
def cb.rd:cb→cb
 | .tok | .dead => .free
 | ob=>ob
theorem rd_eq {a b:cb} (h:a.rd=b.rd):a=b∨((a = .tok∨a = .dead∨a = .free)∧(b = .tok∨b = .dead∨b = .free)):=by
 cases a <;> cases b <;> simp[cb.rd]at h ⊢ <;> exact h
theorem rd_cells {a b:cb} (h:a.rd=b.rd) {cs:List V} (hb:b = .cells cs):a = .cells cs:=by
 rcases rd_eq h with h|⟨_,h⟩
 ·rw[h,hb]
 ·rw[hb]at h; simp at h
theorem rd_bld {a b:cb} (h:a.rd=b.rd) {v:V} (hb:b = .mZ v):a = .mZ v:=by
 rcases rd_eq h with h|⟨_,h⟩
 ·rw[h,hb]
 ·rw[hb]at h; simp at h
theorem rd_row {a b:cb} (h:a.rd=b.rd) {T:Ty} {l:List T.den} (hb:b = .row T l):a = .row T l:=by
 rcases rd_eq h with h|⟨_,h⟩
 ·rw[h,hb]
 ·rw[hb]at h; simp at h
theorem rd_amap {a b:cb} (h:a.rd=b.rd) {K T:Ty} {l:List (K.den×T.den)} (hb:b = .Bs K T l):a = .Bs K T l:=by
 rcases rd_eq h with h|⟨_,h⟩
 ·rw[h,hb]
 ·rw[hb]at h; simp at h
theorem opR_nat {o:Op} {ρ:Operand→V} {lim:Option Nat} {k0:V→Option R} {r:R} (hk:opR tt o ρ h lim k0=some r) :
  ∃v,k0 v=some r∧∀(h2:aN),(∀i,Pb lim i=true→(h2.at i).rd=(h.at i).rd)→∀k:V→Option R,opR tt o ρ h2 lim k=k v:=by
 cases o <;> simp only[opR]at hk ⊢ <;> (try cases hk)
 case load t x =>
  split at hk <;> (try cases hk)
  ·split at hk <;> (try cases hk);rename_i hl;split at hk <;> (try cases hk)
   all_goals rename_i hc
   ·obtain ⟨v,h1,h2⟩:=Ij hk;exact ⟨v,h1,fun hh e k=>by have e':=rd_cells (e _ hl) hc; clear e; simp only[*,if_true]⟩
   ·obtain ⟨v,h1,h2⟩:=Ij hk;exact ⟨v,h1,fun hh e k=>by have e':=rd_bld (e _ hl) hc; clear e; simp only[*,if_true]⟩
  ·obtain ⟨v,h1,h2⟩:=Ij hk;exact ⟨v,h1,fun hh e k=>by simp only[*]⟩
  ·split at hk <;> (try cases hk);rename_i hl;split at hk <;> (try cases hk);rename_i T l hc;split at hk <;> (try cases hk);rename_i hs;obtain ⟨hb,hk⟩:=bY hk;obtain ⟨v,h1,h2⟩:=Ij hk;exact ⟨v,h1,fun hh e k=>by have e':=rd_row (e _ hl) hc; clear e; simp only[*,if_true,bX,cond_true]⟩
 case lookup t x ix ok =>
  split at hk <;> (try cases hk);rename_i kt vt i h1 h2;split at hk <;> (try cases hk);rename_i hl;split at hk <;> (try cases hk);rename_i K T l hc;split at hk <;> (try cases hk);rename_i hf;split at hk <;> (try cases hk);rename_i kx hx;refine ⟨bif ok then .tuple [elV T (mO K T kx l), .bool (Nb K T kx l)]else elV T (mO K T kx l),by cases ok <;> exact hk,fun hh e k => ?_⟩;have e':=rd_amap (e _ hl) hc;clear e;simp only[h1,h2,hl,e',hf,hx,if_true];cases ok <;> rfl
 case convert s d x =>
  split at hk <;> (try cases hk)
  ·rename_i e i n h1 h2 h3;split at hk <;> (try cases hk);rename_i hl;split at hk <;> (try cases hk);rename_i h4 h5;exact ⟨_,hk,fun hh e k=>by have e':=rd_row (e _ hl) h5; clear e; simp only[*,if_true]⟩
  ·rename_i h1 h2 h3;split at hk <;> (try cases hk)
   ·rename_i h4;exact ⟨_,hk,fun hh e k=>by simp only[*]⟩
   ·rename_i h4;obtain ⟨hb,hk⟩:=bY hk;exact ⟨_,hk,fun hh e k=>by simp only[*,bX,cond_true]⟩
  ·rename_i h1 h2 h3;split at hk <;> (try cases hk);rename_i h4;exact ⟨_,hk,fun hh e k=>by simp only[*]⟩
theorem opA_nat {o:Op} {ρ:Operand→V} {k0:cb→(Nat→V)→Option R} {r:R} (hk:opA tt o ρ k0=some r) :
  ∃ob mk,k0 ob mk=some r∧∀k:cb→(Nat→V)→Option R,opA tt o ρ k=k ob mk:=by
 cases o <;> simp only[opA]at hk ⊢ <;> (try cases hk)
 case alloc t =>
  split at hk
  ·exact ⟨_,_,hk,fun k=>by simp[*]⟩
  ·split at hk <;> (try cases hk);exact ⟨_,_,hk,fun k=>by simp[*]⟩
 case box t x =>
  split at hk <;> (try cases hk);split at hk <;> (try cases hk);exact ⟨_,_,hk,fun k=>by simp only[*,if_true]⟩
 case buildSlice t len parts =>
  split at hk <;> (try cases hk);split at hk <;> (try cases hk);rename_i hc;split at hk <;> (try cases hk)
  ·rename_i h1 h2;split at hk <;> (try cases hk);rename_i h3;split at hk
   ·exact ⟨_,_,hk,fun k=>by simp only[*,if_true,if_false]; rfl⟩
   split at hk
   ·split at hk <;> (try cases hk);exact ⟨_,_,hk,fun k=>by simp only[*,if_true,if_false]; rfl⟩
   split at hk
   ·exact ⟨_,_,hk,fun k=>by simp only[*,if_true,if_false]; rfl⟩
   ·exact ⟨_,_,hk,fun k=>by simp only[*,if_true,if_false]; rfl⟩
  ·exact ⟨_,_,hk,fun k=>by simp only[*,if_true,if_false]; rfl⟩
 case makeSlice t n c =>
  split at hk <;> (try cases hk);split at hk <;> (try cases hk);split at hk <;> (try cases hk);split at hk <;> (try cases hk);rename_i h3;obtain ⟨hb,hk⟩:=bY hk;exact ⟨_,_,hk,fun k=>by simp only[*,if_true,bX,cond_true]⟩
 case convert s d x =>
  split at hk <;> (try cases hk);split at hk <;> (try cases hk);exact ⟨_,_,hk,fun k=>by simp[*]⟩
 case range t x =>
  split at hk <;> (try cases hk);exact ⟨_,_,hk,fun k=>by simp[*]⟩
 case makeMap t rsv =>
  split at hk <;> (try cases hk);rename_i h1;split at hk <;> (try cases hk);rename_i kt vt h2;split at hk <;> (try cases hk);rename_i K V' h3 h4;split at hk <;> (try cases hk);rename_i h5;exact ⟨_,_,hk,fun k=>by simp only[h1,h2,h3,h4,h5,if_true]⟩
theorem mapF {β:Type} {ρ ρ':Operand→V} (f:Nat→V→β) (ps:List (Nat×Operand)) (h:∀x∈ps.map (·.2),ρ x=ρ' x) :
  (ps.map fun (i,x)=>f i (ρ x))=(ps.map fun (i,x)=>f i (ρ' x)) :=
 List.map_congr_left fun p hm=>by
  obtain ⟨i,x⟩:=p;simp only[h x (List.mem_map.2 ⟨(i,x),hm,rfl⟩)]
theorem opP_congr {o:Op} {ρ ρ':Operand→V} (h:∀x∈o.operands,ρ x=ρ' x) {k:V→Option R}:opP tt o ρ k=opP tt o ρ' k:=by
 cases o <;> simp only[Op.operands]at h <;> simp only[opP]
 case build t ps =>
  have hp:∀x∈ps.toList.map (·.2),ρ x=ρ' x:=fun x hx=>h x (by simpa using hx)
  split
  ·rename_i fs hd;rw[mapF (fun i v=>((fs.getD i (0,0)).1,if i<fs.length then (tt.at (fs.getD i (0,0)).2).size else 1000000,v)) ps.toList hp]
  ·rename_i e hd;rw[mapF (fun i v=>(i*(tt.at e).size,(tt.at e).size,v)) ps.toList hp]
  ·rfl
 case makeFunc f first cap =>
  cases f <;> simp only;rw[List.map_congr_left (l:=first.toList) (g:=ρ') fun x hx=>h x (by simp at hx ⊢; exact .inl hx),List.map_congr_left (l:=cap.toList) (g:=ρ') fun x hx=>h x (by simp at hx ⊢; exact .inr hx)]
 case slice t x lo hi mx=>cases lo <;> cases hi <;> cases mx <;> simp_all
 case call c =>
  obtain ⟨callee,args,argTypes⟩:=c;have ha:∀x∈args.toList,ρ x=ρ' x:=fun x hx=>h x (by simp[Call.operands]at hx ⊢; exact .inr hx)
  simp only;split
  ·rename_i x e; rw[ha x (by rw[e]; simp)]
  ·rename_i x y e; rw[ha x (by rw[e]; simp),ha y (by rw[e]; simp)]
  ·rename_i x y e; rw[ha x (by rw[e]; simp),ha y (by rw[e]; simp)]
  ·rfl
 all_goals (first|rfl|(simp_all; done))
theorem opR_congr {o:Op} {ρ ρ':Operand→V} (h':∀x∈o.operands,ρ x=ρ' x) {lim:Option Nat} {k:V→Option R}:opR tt o ρ h lim k=opR tt o ρ' h lim k:=by
 cases o <;> simp only[Op.operands]at h' <;> simp only[opR]
 all_goals (first|rfl|(simp_all; done))
theorem opA_congr {o:Op} {ρ ρ':Operand→V} (h':∀x∈o.operands,ρ x=ρ' x) {k:cb→(Nat→V)→Option R}:opA tt o ρ k=opA tt o ρ' k:=by
 cases o <;> simp only[Op.operands]at h' <;> simp only[opA]
 case makeMap t rsv =>
  have e:LZ ρ rsv=LZ ρ' rsv:=by
   cases rsv with
   | none=>rfl
   | some x=>simp only[LZ]; rw[h' x (by simp)]
  rw[e]
 case buildSlice t len ps =>
  have hp:∀x∈ps.toList.map (·.2),ρ x=ρ' x:=fun x hx=>h' x (by simpa using hx)
  split
  ·rename_i e hd;rw[mapF (fun i v=>(i*(tt.at e).size,(tt.at e).size,v)) ps.toList hp]
  ·rfl
 all_goals (first|rfl|(simp_all; done))
theorem opW_congr {o:Op} {ρ ρ':Operand→V} (h':∀x∈o.operands,ρ x=ρ' x) {id:Nat} {k:V→aN→Option R}:opW tt o ρ h id k=opW tt o ρ' h id k:=by
 cases o <;> simp only[Op.operands]at h' <;> simp only[opW]
 case call c =>
  obtain ⟨callee,args,argTypes⟩:=c;have ha:∀x∈args.toList,ρ x=ρ' x:=fun x hx=>h' x (by simp[Call.operands]at hx ⊢; exact .inr hx)
  simp only;split
  ·rename_i x y t xt e et; rw[ha x (by rw[e]; simp),ha y (by rw[e]; simp)]
  ·rfl
 case slice t x lo hi mx=>cases lo <;> cases hi <;> cases mx <;> simp_all
 all_goals (first|rfl|(simp_all; done))
end
section
variable {P:Program} {tt:dn} {w w':World} {h h':aN} {c c':j8} {R:Type}
theorem HH:∀(l:List Nat) (h:aN),Ext w h c w (o9 h l) c
 | [],h => .refl _ _ _
 | i::l,h=>by
  simp only[o9];split
  ·exact (IA i).trans (HH l _)
  ·exact HH l h
theorem Kg:∀(l:List Nat) (h:aN),WF w h c→WF w (o9 h l) c
 | [],h,wf=>wf
 | i::l,h,wf=>by
  simp only[o9];split
  ·exact Kg l _ (ZM wf i)
  ·exact Kg l h wf
theorem F9:∀(l:List Nat) (h:aN) (j:Nat),aN.at (o9 h l) j=h.at j∨aN.at (o9 h l) j = .dead
 | [],h,j => .inl rfl
 | i::l,h,j=>by
  simp only[o9];split
  ·rcases F9 l (h.set i .dead) j with e|e
   ·rw[e,mR];split
    ·exact .inr rfl
    ·exact .inl rfl
   ·exact .inr e
  ·exact F9 l h j
theorem P8:∀(l:List Nat) (h:aN) (j:Nat) {T:Ty} {m:List T.den},j∈l→h.at j = .row T m→aN.at (o9 h l) j = .dead
 | [],_,_,_,_,hj,_=>by cases hj
 | i::l,h,j,T,m,hj,he=>by
  simp only[o9];by_cases B7:i=j
  ·subst B7;split
   ·rcases F9 l (h.set i .dead) i with e|e
    ·rw[e]; exact ma _ (aN.gK he (by simp))
    ·exact e
   ·rename_i hn; exact (hn T m he).elim
  ·have hj':j∈l:=by
    rcases List.mem_cons.1 hj with rfl|h
    ·exact (B7 rfl).elim
    ·exact h
   split
   ·exact P8 l _ j hj' (by rw[cF _ B7]; exact he)
   ·exact P8 l h j hj' he
theorem Vu (h:aN):∀l:List V,V.X8 h l=l.map (V.shut h)
 | []=>rfl
 | v::l=>by simp only[V.X8,List.map_cons,Vu h l]
theorem yt.dead {ids:List Nat} {b x:Nat} (ho:yt (o9 h ids) c b x):yt h c b x:=by
 obtain ⟨i,f,g1,g2,g3⟩:=ho;rcases F9 ids h i with e|e
 ·exact ⟨i,f,g1,e▸g2,g3⟩
 ·rw[e]at g2; cases g2
theorem shut_rep (wf:WF w h c) {ids:List Nat} {v:V} {d:Value} (r:dx w h c v d):(∀i∈v.ids,i∈ids)→dx w (o9 h ids) c (v.shut h) d:=by
 have x:=HH (w:=w) (c:=c) ids h
 induction r with
 | sl f jd uP hc hr E0 mz=>exact fun _=>(dx.sl (t := .no) f jd uP hc hr (by simp) (by simp)).mono x
 | @row i n v hi hn hv =>
  intro hids;simp only[V.shut];split
  ·rename_i T l he;obtain ⟨A,cap,rfl,hA,hv⟩:=hv;obtain ⟨hnl,hle,uP,hor⟩:=hv T l he;obtain ⟨ds,rds,EN⟩:=ZN wf he;subst hnl;refine F6 (rds.mono x) hle uP (fun hl => ?_) (by simp) (by simp);obtain ⟨b,hb,FN⟩:=EN hl;rcases hor with ⟨h1,_⟩|⟨b',arr,e,fz,h1,h2,h3,h4⟩
   ·rw[hb]at h1; cases h1
   ·rw[hb]at h1; cases h1;refine ⟨b,c.off i,h2,FN,fun y hy1 hy2 => ?_⟩;have mz:yt h c b y:=⟨i,0,hb,by rw[he]; rfl,Nat.zero_le _⟩;refine ⟨fun ho => ?_,wf.Ev b y mz⟩;obtain ⟨j,f,g1,g2,g3⟩:=ho;have hdead:=P8 ids h i (hids i (by simp[V.ids])) he;rcases F9 ids h j with e'|e'
    ·have hlj:(h.at j).live:=by rw[e']at g2; exact wi g2
     have:=wf.inj i j b (by rw[he]; trivial) hlj hb g1;subst this;rw[hdead]at g2;cases g2
    ·rw[e']at g2; cases g2
  ·exact .undef _
 | @agg cs y hl _ ih =>
  intro hids;simp only[V.shut,Vu];refine .agg (by simpa using hl) fun j v d hv hd => ?_
  rw[List.getElem?_map]at hv;cases e:cs[j]? with
  | none=>rw[e]at hv; cases hv
  | some u =>
   rw[e]at hv; simp at hv; subst hv;exact ih j u d e hd fun i hi=>hids i (by simp only[V.ids]; exact vJ.2 ⟨j,u,e,hi⟩)
 | @tuple cs y hl _ ih =>
  intro hids;simp only[V.shut,Vu];refine .tuple (by simpa using hl) fun j v d hv hd => ?_
  rw[List.getElem?_map]at hv;cases e:cs[j]? with
  | none=>rw[e]at hv; cases hv
  | some u =>
   rw[e]at hv; simp at hv; subst hv;exact ih j u d e hd fun i hi=>hids i (by simp only[V.ids]; exact vJ.2 ⟨j,u,e,hi⟩)
 | undef v=>exact fun _ => .undef _
 | int hn=>exact fun _ => .int hn
 | bool b=>exact fun _ => .bool b
 | str hl=>exact fun _ => .str hl
 | iJ=>exact fun _ => .iJ
 | bB=>exact fun _ => .bB
 | fG=>exact fun _ => .fG
 | ql=>exact fun _ => .ql
 | dK=>exact fun _ => .dK
 | iface t v=>exact fun _ => .iface t v
 | TA hn=>exact fun _ => .TA hn
 | xx hi hn hv=>exact fun _=>(dx.xx hi hn hv).mono x
 | Su b=>exact fun _ => .Su b
 | ptr hi hv=>exact fun _=>(dx.ptr hi hv).mono x
 | map hi hv=>exact fun _=>(dx.map hi hv).mono x
 | yq hi hv=>exact fun _=>(dx.yq hi hv).mono x
 | Br f hc hr _=>exact fun _=>(dx.Br f hc hr).mono x
 | YZ hn uP f hc hr _=>exact fun _=>(dx.YZ hn uP f hc hr).mono x
 | func ha hb hra hrb _ _=>exact fun _=>(dx.func ha hb hra hrb).mono x
theorem shutL_rep (wf:WF w h c) {vs:List V} {ds:List Value} (r:cz w h c vs ds):cz w (o9 h (V.yr vs)) c (V.X8 h vs) ds:=by
 rw[Vu];refine ⟨by simpa using r.1,fun j v d hv hd => ?_⟩;rw[List.getElem?_map]at hv;cases e:vs[j]? with
 | none=>rw[e]at hv; cases hv
 | some u =>
  rw[e]at hv; simp at hv; subst hv;exact shut_rep wf (r.2 j u d e hd) fun i hi=>vJ.2 ⟨j,u,e,hi⟩
theorem canon_rep {t:Nat} {v:V} {d:Value} (r:dx w h c v d):dx w h c (canon tt t v) d:=by
 unfold canon;split
 ·rename_i T hT;split
  ·rename_i cs;split
   ·rename_i x hx;split
    ·cases r with
     | @agg _ y hl hr =>
      have rl:cz w h c cs y.toList:=⟨by simpa using hl,fun j v d hv hd=>hr j v d hv (by simpa using hd)⟩;have:=R2 hx rl;exact .agg (by simpa using this.1) fun j v d hv hd=>this.2 j v d hv (by simpa using hd)
    ·exact r
   ·exact r
  ·split
   ·rename_i x hx;split
    ·exact r
    ·have:=R2 hx (cz.cons r cz.nil);split
     ·rename_i e he;rw[he]at this;exact this.head
     ·exact r
   ·exact r
 ·split
  ·split
   ·split
    ·rename_i l hl; exact asSl_sound r hl
    ·exact r
   ·exact r
  ·exact r
theorem canonA_rep:∀(ts:List Nat) {vs:List V} {ds:List Value},cz w h c vs ds→cz w h c (TC tt ts vs) ds
 | [],vs,ds,r=>by simpa [TC]using r
 | t::ts, [],ds,r=>by simpa [TC]using r
 | t::ts,v::vs, [],r=>by have:=r.1; simp at this
 | t::ts,v::vs,d::ds,r => .cons (canon_rep r.head) (canonA_rep ts r.tail)
theorem Xh {v:V} {d:Value} (hs:v.scal1=true) (r:dx w h c v d):dx w' h' c' v d:=by
 cases r <;> simp only[V.scal1]at hs <;> (try cases hs)
 case int hn=>exact .int hn
 case bool b=>exact .bool b
 case str hl=>exact .str hl
 case iJ=>exact .iJ
 case bB=>exact .bB
 case fG=>exact .fG
 case ql=>exact .ql
 case dK=>exact .dK
 case iface t v=>exact .iface t v
 case TA hn=>exact .TA hn
theorem scal_rep {v:V} {d:Value} (hs:v.scal=true) (r:dx w h c v d):dx w' h' c' v d:=by
 cases r
 case agg hl hr =>
  simp only[V.scal,List.all_eq_true]at hs;exact .agg hl fun j v d hv hd=>Xh (hs v (List.mem_of_getElem? hv)) (hr j v d hv hd)
 case tuple hl hr =>
  simp only[V.scal,List.all_eq_true]at hs;exact .tuple hl fun j v d hv hd=>Xh (hs v (List.mem_of_getElem? hv)) (hr j v d hv hd)
 all_goals first
  | exact Xh (w:=w) (h:=h) (c:=c) hs (by constructor <;> assumption)
  | (simp only[V.scal,V.scal1]at hs; cases hs)
theorem still_ext {c1 c2:j8} (wf:WF w h c) (x:Ext w [] c1 w' h' c2):Ext w h c w' h c∧WF w' h c:=by
 have nown:∀b y, ¬yt ([]:aN) c1 b y:=fun b y ho=>by
  obtain ⟨i,f,_,g2,_⟩:=ho;simp[aN.at,cb.from_]at g2
 have hx:Ext w h c w' h c := {
  os:=x.os
  tape:=x.tape
  output:=x.output
  size:=x.size
  used:=fun _ hi=>hi
  same:=fun i hi hd=>⟨by have h2:=hi.2; revert hd h2; cases h.at i <;> simp[cb.iS],rfl,rfl⟩
  cell:=fun b y hb _=>x.cell b y hb (nown b y)
  block:=fun b hb _=>x.block b hb (nown b)
  CF:=fun _ _ _ ho=>ho
  ext:=rfl
  arr:=x.arr }
 refine ⟨hx,?_,fun b y hb=>Nat.lt_of_lt_of_le (wf.sB b y hb) x.size,fun i hi => ?_,wf.inj,wf.wQ hx⟩
 ·exact wf.Ev
 ·by_cases hl:(h.at i).live
  ·exact (wf.obj i hi).Ar hx (fun b hb=>x.block b ((wf.obj i hi).lt hl hb) (nown b)) rfl rfl
  ·have h0:h.at i = .free∨h.at i = .dead:=by revert hl; cases h.at i <;> simp[cb.live]
   rcases h0 with h0|h0 <;> rw[h0] <;> trivial
end
section
variable {P:Program} {tt:dn} {w w':World} {h h':aN} {c c':j8} {R:Type}
def C1 (P:Program) (g:Nat) (args:Array Value) (w:World) (Q:Value→World→Prop):Prop :=
 ∃nx w1,(callFunc g args).run P w = .ok nx w1 ∧
  match nx with
  | .value d=>Q d w1
  | .enter f xs=>Calls P f xs w1 fun e w'=>∃d,e = .returned d∧Q d w'
  | .row row xs=>Rows P row xs w1 Q
  | _=>False
theorem C1.mono {g:Nat} {args:Array Value} {Q Q':Value→World→Prop} (h:C1 P g args w Q) (hq:∀d w',Q d w'→Q' d w'):C1 P g args w Q':=by
 obtain ⟨nx,w1,h1,h2⟩:=h;refine ⟨nx,w1,h1,?_⟩;cases nx <;> simp only at h2 ⊢
 ·exact hq _ _ h2
 ·exact Calls.mono h2 fun e w' ⟨d,e1,q⟩=>⟨d,e1,hq _ _ q⟩
 ·exact Rows.mono h2 fun d w' q=>hq _ _ q
def Spec.Ok (P:Program) (g:Nat) (sp:Spec R):Prop :=
 ∀vs h k r,sp vs h k=some r→∀(w:World) (c:j8) (args:Array Value),WF w h c→cz w h c vs args.toList →
  C1 P g args w fun d w'=>∃v h' c',WF w' h' c'∧Ext w h c w' h' c'∧dx w' h' c' v d∧k v h'=some r
def Spec.OkAt (P:Program) (g m:Nat) (sp:Spec R):Prop :=
 ∀vs h k r,h.length=m→sp vs h k=some r→∀(w:World) (c:j8) (args:Array Value),WF w h c→cz w h c vs args.toList →
  C1 P g args w fun d w'=>∃v h' c',WF w' h' c'∧Ext w h c w' h' c'∧dx w' h' c' v d∧k v h'=some r
def P9 (sp:Spec R):Prop:=∀vs h k k',(∀v,k v h=k' v h)→sp vs h k=sp vs h k'
def EOk (P:Program) (E:Env R):Prop:=∀g b sp,E g=some (b,sp)→Spec.Ok P g sp∧(b=false→pW.soft g=true→P9 sp)
theorem P9.same {sp:Spec R} (hs:P9 sp) {vs:List V} {k:V→aN→Option R} {r:R} (hk:sp vs h k=some r):∃k',sp vs h k'=some r∧∀v h',k' v h'=some r→h'=h∧k v h=some r:=by
 classical
 refine ⟨fun v h'=>if h'=h then k v h else none,?_,fun v h' e => ?_⟩
 ·rw[←hk];exact hs _ _ _ _ fun v=>by simp
 ·simp only at e;split at e
  ·exact ⟨‹_›,e⟩
  ·cases e
theorem Spec.OkAt.of_body {g m:Nat} {sp:Spec R} {fn:Func} (hf:P.funcs[g]? = some fn) (hn:(fn.name == "runtime.NumGoroutine")=false) (hb:fn.body.isNone=false)
  (hs:∀vs h k r,h.length=m→sp vs h k=some r→∀(w:World) (c:j8) (args:Array Value),WF w h c→cz w h c vs args.toList →
   Calls P g args w fun e w'=>∃d,e = .returned d∧∃v h' c',WF w' h' c'∧Ext w h c w' h' c'∧dx w' h' c' v d∧k v h'=some r):Spec.OkAt P g m sp:=by
 intro vs h k r hml hk w c args wf ra;refine ⟨.enter g args,w,?_,hs vs h k r hml hk w c args wf ra⟩;have hn':fn.name ≠ "runtime.NumGoroutine" :=by simpa using hn
 have pX:fn.body≠none:=fun e=>by rw[e]at hb; cases hb
 simp[callFunc,hf,hn',pX]
theorem none_ids:∀ {v:V},v.ids = []→∀ρ,v.sU ρ=v:=by
 have key:(∀v:V,v.ids = []→∀ρ,v.sU ρ=v)∧∀l:List V,V.yr l = []→∀ρ,V.EY ρ l=l:=by
  refine ⟨fun v => ?_,fun l => ?_⟩
  ·refine V.rec (motive_1:=fun v=>v.ids = []→∀ρ,v.sU ρ=v) (motive_2:=fun l=>V.yr l = []→∀ρ,V.EY ρ l=l) ?_ ?_ ?_ ?_ ?_ ?_ ?_ ?_ ?_ ?_ ?_ ?_ ?_ ?_ ?_ ?_ ?_ ?_ ?_ ?_ ?_ ?_ ?_ ?_ ?_ v <;> first
    | (intros; rfl)
    | (intros; simp_all [V.ids,V.yr,V.sU,V.EY]; done)
    | skip
   ·intro T l t ht ρ;cases t <;> simp_all [V.ids,V.sU,Tok.sU]
  ·refine V.rec_1 (motive_1:=fun v=>v.ids = []→∀ρ,v.sU ρ=v) (motive_2:=fun l=>V.yr l = []→∀ρ,V.EY ρ l=l) ?_ ?_ ?_ ?_ ?_ ?_ ?_ ?_ ?_ ?_ ?_ ?_ ?_ ?_ ?_ ?_ ?_ ?_ ?_ ?_ ?_ ?_ ?_ ?_ ?_ l <;> first
    | (intros; rfl)
    | (intros; simp_all [V.ids,V.yr,V.sU,V.EY]; done)
    | skip
   ·intro T l t ht ρ;cases t <;> simp_all [V.ids,V.sU,Tok.sU]
 exact fun {v} hv ρ=>key.1 v hv ρ
theorem back_nil (h:aN):h.back [] []=h:=by simp[aN.back,aN.GK]
def yZ (al:Bool) (id:Nat) (h h':aN):Prop:=h.length≤h'.length∧∀j,(al=true→j≠id)→j<h.length→h.at j = .free→h'.at j = .free
theorem back_keeps {ord:List Nat} (Na:ord.Nodup) (hu:∀i∈ord,Used h i) (hle:ord.length≤h'.length):yZ false 0 h (h.back ord h'):=by
 refine ⟨by simp[aN.back,fP],fun j _ hj hf => ?_⟩;have hn:j∉ord:=fun hm=>(hu j hm).2 hf
 rcases Kf (c:=⟨fun _=>none,fun _=>0,⟨fun _ _=>False⟩⟩) (c':=⟨fun _=>none,fun _=>0,⟨fun _ _=>False⟩⟩) Na (fun i hi=>(hu i hi).1) hle j with ⟨i,h1,h2,_⟩|⟨_,_,h3,_⟩|⟨h1,_⟩
 ·unfold rU at h1;split at h1
  ·rename_i hi;simp only[List.getD,List.getElem?_eq_getElem hi,Option.getD_some]at h1;exact (hn (h1▸List.getElem_mem hi)).elim
  ·omega
 ·rw[h3]; exact hf
 ·simp[aN.back,fP]at h1; omega
theorem ev_rep {st:List V} {a:Act} (r:cz w h c st a.tmps.toList) (x:Operand):dx w h c (ev st x) (a.eval x):=by
 cases x with
 | tmp t =>
  have:=r.getD t undef;simpa [ev,Act.eval,List.getD,Array.getD_eq_getD_getElem?]using this
 | const v=>exact Ya v
 | global g=>exact .undef _
 | func f=>exact .func rfl rfl (by simp) (by simp)
theorem dropTok1_rep {v:V} {d:Value} (r:dx w h c v d):dx w h c (dropTok1 v) d:=by
 cases r with
 | sl f jd uP hc hr E0 mz=>exact .sl f jd uP hc hr (by simp) (by simp)
 | _=>simp only[dropTok1]; constructor <;> assumption
theorem Yf {v:V} {d:Value} (r:dx w h c v d):dx w h c (Nc v) d:=by
 cases r with
 | sl f jd uP hc hr E0 mz=>exact .sl f jd uP hc hr (by simp) (by simp)
 | @agg cs x hl hr =>
  refine .agg (by simpa using hl) fun j v d hv hd => ?_
  rw[List.getElem?_map]at hv;cases e:cs[j]? with
  | none=>rw[e]at hv; cases hv
  | some u=>rw[e]at hv; simp at hv; subst hv; exact dropTok1_rep (hr j u d e hd)
 | _=>simp only[Nc]; constructor <;> assumption
theorem dropTokL_rep {vs:List V} {ds:List Value} (r:cz w h c vs ds):cz w h c (vs.map Nc) ds:=by
 refine ⟨by simpa using r.1,fun j v d hv hd => ?_⟩;rw[List.getElem?_map]at hv;cases e:vs[j]? with
 | none=>rw[e]at hv; cases hv
 | some u=>rw[e]at hv; simp at hv; subst hv; exact Yf (r.2 j u d e hd)
theorem renL_none {vs:List V} (h:V.yr vs = []) (ρ:Nat→Option Nat):V.EY ρ vs=vs:=by
 have:∀v∈vs,v.sU ρ=v:=fun v hv=>by
  refine none_ids ?_ _;cases hi:v.ids with
  | nil=>rfl
  | cons i l =>
   obtain ⟨j,hj⟩:=List.mem_iff_getElem?.1 hv;have:i∈V.yr vs:=vJ.2 ⟨j,v,hj,by rw[hi]; simp⟩;rw[h]at this; cases this
 rw[ZP]
 conv=>rhs; rw[←List.map_id vs]
 exact List.map_congr_left this
theorem callK_sound {E:Env R} (hE:EOk P E) (wf:WF w h c) {o:Oper} {cl:Call} (ho:o.op = .call cl) {ρ:Operand→V} {ρ':Operand→Value} (hρ:∀x,dx w h c (ρ x) (ρ' x)) {full:Bool}
  {k:V→aN→Option R} {r:R} (hk:EM tt E full cl ρ h k=some r) :
  ∃g args,(execOp ρ' o).run P w=(callFunc g args).run P w∧C1 P g args w fun d w' =>
   ∃v h' c',WF w' h' c'∧Ext w h c w' h' c'∧dx w' h' c' v d∧k v h'=some r∧yZ false 0 h h'∧(full=false→h'=h):=by
 obtain ⟨dst,op,type,pos,after,guard⟩:=o;simp only at ho;subst ho;unfold EM at hk;split at hk <;> (try cases hk);rename_i f hf;split at hk <;> (try cases hk);rename_i g first cap hg
 have rf:=hρ f;rw[hg]at rf;generalize hdf:ρ' f=df at rf;cases rf with
 | @func _ _ _ x y ha hb hra hrb =>
  have rargs:cz w h c (first++cl.args.toList.map ρ++cap) (x++cl.args.map ρ'++y).toList:=by
   have e:(x++cl.args.map ρ'++y).toList=x.toList++cl.args.toList.map ρ'++y.toList:=by simp
   rw[e];refine cz.append (cz.append ⟨by simpa using ha,fun j v d hv hd=>hra j v d hv (by simpa using hd)⟩ (cz.map _ fun z _=>hρ z)) ⟨by simpa using hb,fun j v d hv hd=>hrb j v d hv (by simpa using hd)⟩
  have rplain:cz w h c ((first++TC tt cl.argTypes.toList (cl.args.toList.map ρ)++cap).map Nc) (x++cl.args.map ρ'++y).toList:=by
   have e:(x++cl.args.map ρ'++y).toList=x.toList++cl.args.toList.map ρ'++y.toList:=by simp
   rw[e];refine dropTokL_rep (cz.append (cz.append ⟨by simpa using ha,fun j v d hv hd=>hra j v d hv (by simpa using hd)⟩ (canonA_rep _ (cz.map _ fun z _=>hρ z))) ⟨by simpa using hb,fun j v d hv hd=>hrb j v d hv (by simpa using hd)⟩)
  simp only at hk;refine ⟨g,x++cl.args.map ρ'++y,by simp[execOp,resolve,hf,hdf,Deferred.ofValue,invoke],?_⟩;generalize (first++TC tt cl.argTypes.toList (cl.args.toList.map ρ)++cap).map Nc=ps at *;generalize first++cl.args.toList.map ρ++cap=vs at *
  split at hk <;> (try cases hk)
  ·
   rename_i sp hsp;split at hk
   ·rename_i hids;have ra:=TO (ord := []) rplain;rw[renL_none hids]at ra;refine C1.mono ((hE g _ sp hsp).1 _ _ _ _ hk w _ _ (Xf (ord := []) wf List.nodup_nil) ra) fun d w' ⟨v,h',c',wf',x,rv,vH⟩ => ?_
    obtain ⟨k1,k2,k3⟩:=call_back wf (ord := []) (by simp) (by simp) wf' x;split at vH <;> (try cases vH);refine ⟨v,h,c.back [] h.length c',?_,?_,?_,vH,⟨Nat.le_refl _,fun j _ _ hf=>hf⟩,fun _=>rfl⟩
    ·rw[back_nil]at k1; exact k1
    ·rw[back_nil]at k2; exact k2
    ·have:=rv.sU k3;rw[back_nil]at this;rw[none_ids]at this
     ·exact this
     ·cases hi:v.ids with
      | nil=>rfl
      | cons i l =>
       have:=rv.F7 i (by rw[hi]; simp);exact (Nat.not_lt_zero _ this.1).elim
   ·cases full with
    | false=>cases hk
    | true =>
     simp only[cond_true]at hk;unfold lendK at hk;split at hk <;> (try cases hk);rename_i hids;have ra:=TO (ord := []) (shutL_rep wf rplain);rw[renL_none hids]at ra;refine C1.mono ((hE g _ sp hsp).1 _ _ _ _ hk w _ _ (Xf (ord := []) (Kg _ _ wf) List.nodup_nil) ra) fun d w' ⟨v,h',c',wf',x,rv,vH⟩ => ?_
     split at vH <;> (try cases vH);cases hs:v.scal with
     | false=>rw[hs]at vH; cases vH
     | true =>
      rw[hs]at vH;obtain ⟨hx,hw⟩:=still_ext wf x;exact ⟨v,h,c,hw,hx,scal_rep hs rv,vH,⟨Nat.le_refl _,fun j _ _ hf=>hf⟩,fun _=>rfl⟩
  ·rename_i sp hsp;cases full with
   | false=>cases hk
   | true =>
    simp only[cond_true]at hk;cases hso:pW.soft g with
    | true =>
     rw[hso]at hk;simp only[cond_true]at hk;obtain ⟨k',hk1,RZ⟩:=((hE g _ sp hsp).2 rfl hso).same hk;refine C1.mono ((hE g _ sp hsp).1 _ _ _ _ hk1 w _ _ wf rargs) fun d w' ⟨v,h',c',wf',x,rv,vH⟩ => ?_
     obtain ⟨rfl,hk3⟩:=RZ _ _ vH;exact ⟨v,_,c',wf',x,rv,hk3,⟨Nat.le_refl _,fun j _ _ hf=>hf⟩,fun _=>rfl⟩
    | false =>
    rw[hso]at hk;simp only[cond_false]at hk;have hui:=rargs.F7;generalize V.yr vs=ids at *;have hu:∀i∈reach h 64 ids [],Used h i:=TN wf _ _ _ hui (by simp);have Na:(reach h 64 ids []).Nodup:=Ke h _ _ _ (by simp);refine C1.mono ((hE g _ sp hsp).1 _ _ _ _ hk w _ _ (Xf wf Na) (TO rargs)) fun d w' ⟨v,h',c',wf',x,rv,vH⟩ => ?_
    obtain ⟨k1,k2,k3⟩:=call_back wf Na hu wf' x;have hle:(reach h 64 ids []).length≤h'.length:=by
     rcases Nat.eq_zero_or_pos (reach h 64 ids []).length with h0|h0
     ·omega
     ·have:=(x.used ((reach h 64 ids []).length - 1) ⟨by simp[aN.pick]; omega,by
       rw[wS,List.getElem?_eq_getElem (by omega)];simp only[ne_eq,IE];exact (hu _ (List.getElem_mem _)).2⟩).1
      omega
    exact ⟨_,_,_,k1,k2,rv.sU k3,vH,back_keeps Na hu hle,fun hd'=>by cases hd'⟩
end
section
variable {tt:dn} {h:aN} {R:Type}
theorem srcOf_set {T:Ty} {x:V} {id ix:Nat} {ob:cb} (hx:lowX id x=true) (jz:id<ix):X7 T (h.set ix ob) x=X7 T h x:=by
 cases x <;> simp only[X7]
 case row i n =>
  simp only[lowX,decide_eq_true_eq]at hx;rw[cF _ (by omega)]
 case xx i z q n =>
  simp only[lowX,decide_eq_true_eq]at hx;rw[cF _ (by omega)]
theorem viewOk_set {x:V} {id ix:Nat} {ob:cb} (hx:lowX id x=true) (jz:id<ix):W4 (h.set ix ob) x=W4 h x:=by
 cases x <;> simp only[W4]
 case xx i z q n =>
  simp only[lowX,decide_eq_true_eq]at hx;rw[cF _ (by omega)]
theorem appendK_set {e base id ix:Nat} {s x:V} {ob:cb} {k:V→aN→Option R} (hs:lowS base id s=true) (hx:lowX id x=true) (jz:id<ix) :
  pO tt e s x (h.set ix ob) id k=pO tt e s x h id fun v h'=>k v (h'.set ix ob):=by
 have hc:∀(h:aN) (o1:cb),(h.set ix ob).set id o1=(h.set id o1).set ix ob:=fun h o1=>List.set_comm _ _ (by omega)
 unfold pO;rw[viewOk_set hx jz];congr 1;unfold As;cases (tt.at e).ty with
 | none=>rfl
 | some T =>
  simp only[srcOf_set hx jz];split
  ·cases X7 T h x with
   | none=>rfl
   | some m =>
    cases s with
    | bB =>
     simp only[hc]
    | sl T' l tk =>
     simp only;split
     ·cases tk with
      | no=>rfl
      | nil=>simp only[hc]
      | own i =>
       simp only[lowS,decide_eq_true_eq]at hs;simp only;rw[cF _ (by omega)];have hci:∀o1:cb,(h.set ix ob).set i o1=(h.set i o1).set ix ob:=fun o1=>List.set_comm _ _ (by omega)
       simp only[hci,hc]
     ·rfl
    | row i n =>
     simp only[lowS,Bool.and_eq_true,decide_eq_true_eq]at hs;simp only;rw[cF _ (by omega)];have hci:∀o1:cb,(h.set ix ob).set i o1=(h.set i o1).set ix ob:=fun o1=>List.set_comm _ _ (by omega)
     simp only[hci,hc]
    | _=>rfl
  ·rfl
theorem appendK_mono {e base id:Nat} {s x:V} {k k':V→aN→Option R} (hb:base≤id) (hs:lowS base id s=true) (hk:∀v h',(∀i,i<base→(h'.at i).rd=(h.at i).rd)→k v h'=k' v h') :
  pO tt e s x h id k=pO tt e s x h id k':=by
 have h1:∀v o1,k v (h.set id o1)=k' v (h.set id o1):=fun v o1=>hk v _ fun i hi=>by rw[cF _ (by omega)]
 unfold pO;congr 1;unfold As;cases (tt.at e).ty with
 | none=>rfl
 | some T =>
  simp only;split
  ·cases X7 T h x with
   | none=>rfl
   | some m =>
    cases s with
    | bB=>simp only[h1]
    | sl T' l tk =>
     simp only;split
     ·cases tk with
      | no=>rfl
      | nil=>simp only[h1]
      | own i =>
       simp only[lowS,decide_eq_true_eq]at hs;simp only;have h2:h.at i = .tok→∀v o1,k v ((h.set i .dead).set id o1)=k' v ((h.set i .dead).set id o1):=fun ht v o1=>hk v _ fun j hj=>by
        rw[cF _ (by omega)];by_cases e:i=j
        ·subst e;rw[ht,mR];split <;> simp[cb.rd,ht]
        ·rw[cF _ e]
       cases ht:h.at i <;> try rfl
       simp only[h2 ht]
     ·rfl
    | row i n =>
     simp only[lowS,Bool.and_eq_true,decide_eq_true_eq]at hs;have hbi:=Nat.le_of_ble_eq_true hs.1;have h2:∀v o1,k v ((h.set i .dead).set id o1)=k' v ((h.set i .dead).set id o1):=fun v o1=>hk v _ fun j hj=>by
      rw[cF _ (by omega),cF _ (by omega)]
     simp only[h2]
    | _=>rfl
  ·rfl
theorem app_inv {o:Op} (ha:vG o=true):∃c,o = .call c∧c.callee = .builtin .append:=by
 unfold vG at ha;split at ha <;> (try cases ha);rename_i c;refine ⟨c,rfl,?_⟩
 revert ha
 split
 ·intro _; assumption
 ·intro h; cases h
theorem Nt {o:Op} (ha:vG o=true):fE tt o = .W:=by
 obtain ⟨c,rfl,hc⟩:=app_inv ha;simp only[fE,hc]
theorem lowApp_congr {base:Nat} {o:Op} {ρ ρ':Operand→V} {id:Nat} (h':∀x∈o.operands,ρ x=ρ' x):K6 base o ρ id=K6 base o ρ' id:=by
 unfold K6;split
 ·rename_i c;have ha:∀x∈c.args.toList,ρ x=ρ' x:=fun x hx=>h' x (by simp[Op.operands,Call.operands]at hx ⊢; exact .inr hx)
  split
  ·rename_i s x e;rw[ha s (by rw[e]; simp),ha x (by rw[e]; simp)]
  ·rfl
 ·rfl
theorem lowD_congr {drawn:Option Nat} {o:Op} {ρ ρ':Operand→V} {id:Nat} (h':∀x∈o.operands,ρ x=ρ' x):lowD drawn o ρ id=lowD drawn o ρ' id:=by
 cases drawn with
 | none=>rfl
 | some b=>exact lowApp_congr h'
theorem opW_set {base:Nat} {o:Op} {ρ:Operand→V} {id ix:Nat} {ob:cb} {k:V→aN→Option R} (ha:vG o=true) (hl:K6 base o ρ id=true) (jz:id<ix) :
  opW tt o ρ (h.set ix ob) id k=opW tt o ρ h id fun v h'=>k v (h'.set ix ob):=by
 obtain ⟨⟨callee,args,argTypes⟩,rfl,hc⟩:=app_inv ha;simp only at hc;subst hc;simp only[opW];split
 ·rename_i s x t xt _ e et;simp only[K6,e,Bool.and_eq_true]at hl;simp only[appendK_set hl.1 hl.2 jz]
 ·rfl
theorem opW_mono {base:Nat} {o:Op} {ρ:Operand→V} {id:Nat} {k k':V→aN→Option R} (ha:vG o=true) (hb:base≤id) (hl:K6 base o ρ id=true) (hk:∀v h',(∀i,i<base→(h'.at i).rd=(h.at i).rd)→k v h'=k' v h') :
  opW tt o ρ h id k=opW tt o ρ h id k':=by
 obtain ⟨⟨callee,args,argTypes⟩,rfl,hc⟩:=app_inv ha;simp only at hc;subst hc;simp only[opW];split
 ·rename_i s x t xt _ e et;simp only[K6,e,Bool.and_eq_true]at hl;simp only[appendK_mono hb hl.1 hk]
 ·rfl
end
section
variable {P:Program} {tt:dn} {w w':World} {h h':aN} {c c':j8} {R:Type}
structure TP (w:World) (c:j8) (st:St) (a:Act):Prop where
 wf:WF w st.hp c
 fr:cz w st.hp c st.fr a.tmps.toList
theorem yZ.refl (al:Bool) (id:Nat) (h:aN):yZ al id h h:=⟨Nat.le_refl _,fun _ _ _ hf=>hf⟩
theorem yZ.set {id:Nat} (ob:cb):yZ true id h (h.set id ob):=⟨by simp,fun j hj _ hf=>by rw[cF _ (Ne.symm (hj rfl))]; exact hf⟩
theorem yZ.weak {al:Bool} {id:Nat} (k:yZ false 0 h h'):yZ al id h h':=⟨k.1,fun j _ hj hf=>k.2 j (by simp) hj hf⟩
theorem opW_nat {o:Op} {ρ:Operand→V} {id:Nat} {k0:V→aN→Option R} {r:R} (hk:opW tt o ρ h id k0=some r) :
  ∃v h',k0 v h'=some r∧yZ true id h h'∧∀k:V→aN→Option R,opW tt o ρ h id k=k v h':=by
 have kset:∀i ob,h.at i ≠ .free→yZ true id h (h.set i ob):=fun i ob hi=>⟨by simp,fun j _ _ hf=>by
  rw[cF _ (fun e:i=j=>hi (by rw[e]; exact hf))]; exact hf⟩
 have kset2:∀i ob ob',h.at i ≠ .free→yZ true id h ((h.set i ob).set id ob'):=fun i ob ob' hi=>⟨by simp,fun j hj _ hf=>by
  rw[cF _ (Ne.symm (hj rfl)),cF _ (fun e:i=j=>hi (by rw[e]; exact hf))]; exact hf⟩
 cases o <;> simp only[opW]at hk ⊢ <;> (try cases hk)
 case store t x y =>
  split at hk <;> (try cases hk);rename_i vs hvs;split at hk <;> (try cases hk);rename_i hc;split at hk <;> (try cases hk)
  ·rename_i i o hx;split at hk <;> (try cases hk)
   ·rename_i cs FN;split at hk <;> (try cases hk);rename_i hl;exact ⟨_,_,hk,kset i _ (by rw[FN]; simp),fun k=>by simp only[*,if_true]⟩
   rename_i u FN;split at hk <;> (try cases hk);exact ⟨_,_,hk,kset i _ (by rw[FN]; simp),fun k=>by simp only[*,if_true]⟩
  ·rename_i i sz j o hx;split at hk <;> (try cases hk);rename_i T l FN;split at hk <;> (try cases hk);rename_i hs;split at hk <;> (try cases hk);rename_i hl;split at hk <;> (try cases hk);rename_i z hz;obtain ⟨hb,hk⟩:=bY hk;exact ⟨_,_,hk,kset i _ (by rw[FN]; simp),fun k=>by simp only[*,if_true,bX,cond_true]⟩
 case slice t x lo hi mx =>
  cases hb:(lo.isNone&&hi.isNone&&mx.isNone)with
  | false=>rw[hb]at hk; cases hk
  | true =>
   rw[hb,cond_true]at hk;unfold L0 at hk;split at hk <;> (try cases hk);rename_i m e i ht hx;split at hk <;> (try cases hk);rename_i cs FN;split at hk <;> (try cases hk);rename_i T' hT;split at hk <;> (try cases hk);rename_i hc;split at hk <;> (try cases hk);rename_i l hl;exact ⟨_,_,hk,kset i _ (by rw[FN]; simp),fun k=>by
    rw[cond_true];unfold L0;simp only[ht,hx,FN,hT];rw[if_pos hc,hl]⟩
 case mapUpdate t m x y =>
  split at hk <;> (try cases hk);rename_i kt vt i ht hx;split at hk <;> (try cases hk);rename_i K V' l hm;split at hk <;> (try cases hk);rename_i hf;split at hk <;> (try cases hk);rename_i kx vx hkx hvx;exact ⟨_,_,hk,kset i _ (by rw[hm]; simp),fun k=>by simp only[ht,hx,hm,hf,hkx,hvx,if_true]⟩
 case insert t m x y =>
  split at hk <;> (try cases hk);rename_i kt vt i ht hx;split at hk <;> (try cases hk);rename_i K V' l hm;split at hk <;> (try cases hk);rename_i hf;split at hk <;> (try cases hk);rename_i kx vx hkx hvx;exact ⟨_,_,hk,kset i _ (by rw[hm]; simp),fun k=>by simp only[ht,hx,hm,hf,hkx,hvx,if_true]⟩
 case next x str =>
  split at hk <;> (try cases hk);rename_i i hx;split at hk <;> (try cases hk);rename_i s pos hit;cases hb:decide (pos<s.length)with
  | true =>
   rw[hb]at hk;exact ⟨_,_,hk,kset i _ (by rw[hit]; simp),fun k=>by simp only[hx,hit,hb,cond_true]⟩
  | false =>
   rw[hb]at hk;exact ⟨_,_,hk, .refl _ _ _,fun k=>by simp only[hx,hit,hb,cond_false]⟩
 case call cl =>
  have happ:∀e s x,pO tt e s x h id k0=some r→∃v h',k0 v h'=some r∧yZ true id h h'∧∀k:V→aN→Option R,pO tt e s x h id k=k v h':=by
   intro e s x hk;unfold pO at hk;have hk0:=bY hk;clear hk;obtain ⟨hvok,hk⟩:=hk0;unfold As at hk;split at hk <;> (try cases hk);rename_i T hT;split at hk <;> (try cases hk);rename_i hc;split at hk <;> (try cases hk);rename_i m hm;split at hk <;> (try cases hk)
   ·obtain ⟨hb,hk⟩:=bY hk;split at hk
    ·rename_i hr;exact ⟨_,_,hk,yZ.set _,fun k=>by simp only[pO,As,hvok,hT,hc,hm,if_true,hb,bX,cond_true,hr]⟩
    ·rename_i hr;exact ⟨_,_,hk,yZ.set _,fun k=>by simp only[pO,As,hvok,hT,hc,hm,if_true,hb,bX,cond_true,if_neg hr]⟩
   ·split at hk <;> (try cases hk);rename_i hq;subst hq;split at hk <;> (try cases hk)
    ·obtain ⟨hb,hk⟩:=bY hk;exact ⟨_,_,hk,yZ.set _,fun k=>by simp only[pO,As,hvok,hT,hc,hm,if_true,hb,bX,cond_true,dite_true]⟩
    ·split at hk <;> (try cases hk);rename_i hi;obtain ⟨hb,hk⟩:=bY hk;exact ⟨_,_,hk,kset2 _ _ _ (by rw[hi]; simp),fun k=>by simp only[pO,As,hvok,hT,hc,hm,hi,if_true,hb,bX,cond_true,dite_true]⟩
   ·split at hk <;> (try cases hk);rename_i T' l hi;split at hk <;> (try cases hk);rename_i hq;subst hq;obtain ⟨hb,hk⟩:=bY hk;exact ⟨_,_,hk,kset2 _ _ _ (by rw[hi]; simp),fun k=>by simp only[pO,As,hvok,hT,hc,hm,hi,if_true,hb,bX,cond_true,dite_true]⟩
  split at hk <;> (try cases hk);split at hk <;> (try cases hk)
  ·obtain ⟨v,h',h1,h2,h3⟩:=happ _ _ _ hk;exact ⟨v,h',h1,h2,fun k=>by simp[*]⟩
  ·obtain ⟨v,h',h1,h2,h3⟩:=happ _ _ _ hk;exact ⟨v,h',h1,h2,fun k=>by simp[*]⟩
theorem HI {st:List V} {a:Act} (r:cz w h c st a.tmps.toList) (dst:Option Nat) {v:V} {d:Value} (rv:dx w h c v d):cz w h c (nF st dst v) (a.put dst d).tmps.toList:=by
 cases dst with
 | none=>exact r
 | some j=>simpa [nF,Act.put]using r.set j rv
theorem put_defers (a:Act) (dst:Option Nat) (d:Value):(a.put dst d).defers=a.defers:=by cases dst <;> rfl
theorem Qa (T:CU P tt) {E:Env R} (hE:EOk P E) {o:Oper} {st:St} {a:Act} {drawn:Option Nat} {id:Nat} {k:St→Option R} {r:R} (hk:F4 tt E drawn id o st k=some r) (iS:TP w c st a)
  (hid:cf tt o=true→id<st.hp.length∧st.hp.at id = .free) {next:Act→World→Prop} {Q:Exit→Act→World→Prop}
  (hn:∀d w' yY c' v,TP w' c' yY (a.put o.dst d)→Ext w st.hp c w' yY.hp c'→yZ (cf tt o) id st.hp yY.hp→yY.fr=nF st.fr o.dst v→(fE tt o.op ≠ .W→(fE tt o.op = .C→(drawn.isNone || !pP E o.op)=false)→∀i,(cf tt o=true→i≠id)→yY.hp.at i=st.hp.at i)→k yY=some r→next (a.put o.dst d) w'):o.wp P a w next Q:=by
 have hρ:=fun x=>ev_rep iS.fr x
 unfold F4 at hk;unfold Oper.wp;simp only at hk;split at hk
 ·rename_i K9;obtain ⟨v,d,h1,h2,h3⟩:=opP_sound (w:=w) T hρ hk;rw[h1,Oper.upon_value];exact hn d w ⟨nF st.fr o.dst v,st.hp⟩ c v ⟨iS.wf,HI iS.fr _ h2⟩ (.refl _ _ _) (.refl _ _ _) rfl (fun _ _ _ _=>rfl) h3
 ·rename_i K9;obtain ⟨v,d,h1,h2,h3⟩:=opR_sound T iS.wf hρ hk;rw[h1,Oper.upon_value];exact hn d w ⟨nF st.fr o.dst v,st.hp⟩ c v ⟨iS.wf,HI iS.fr _ h2⟩ (.refl _ _ _) (.refl _ _ _) rfl (fun _ _ _ _=>rfl) h3
 ·rename_i K9;have hal:cf tt o=true:=by simp[cf,K9]
  obtain ⟨ob,mk,h1,_,h2⟩:=opA_sound T iS.wf hρ hk;obtain ⟨d,w',c',g1,g2,g3,g4⟩:=h2 id (hid hal).1 (hid hal).2;rw[g1,Oper.upon_value];exact hn d w' ⟨nF st.fr o.dst (mk id),st.hp.set id ob⟩ c' (mk id) ⟨g2,HI (iS.fr.mono g3) _ g4⟩ g3 (by rw[hal]; exact yZ.set _) rfl (fun _ _ i hi=>cF _ (Ne.symm (hi hal))) h1
 ·rename_i K9;have hal:cf tt o=true:=by simp[cf,K9]
  have hk:lowD drawn o.op (ev st.fr) id=true∧opW tt o.op (ev st.fr) st.hp id (fun v h=>k ⟨nF st.fr o.dst v,h⟩)=some r:=by
   revert hk
   cases lowD drawn o.op (ev st.fr) id <;> simp
  obtain ⟨_,hk⟩:=hk;obtain ⟨v0,h0,hk0,hkeep,hnat⟩:=opW_nat hk;have RZ:=hnat fun v h'=>open Classical in if h'=h0 then k ⟨nF st.fr o.dst v,h'⟩else none
  simp only[if_true]at RZ;obtain ⟨v,h',d,w',c',nx,g1,g2,g3,g4,g5,g6⟩:=opW_sound T iS.wf hρ (hid hal).1 (hid hal).2 (RZ.trans hk0);split at g6 <;> (try cases g6);rename_i he;subst he;rw[g1];rcases g2 with rfl|⟨rfl,rfl⟩
  ·rw[Oper.upon_value];exact hn d w' ⟨nF st.fr o.dst v,h'⟩ c' v ⟨g3,HI (iS.fr.mono g4) _ g5⟩ g4 (by rw[hal]; exact hkeep) rfl (fun hC=>(hC K9).elim) g6
  ·rw[Oper.upon_skip];exact hn undef w' ⟨nF st.fr o.dst v,h'⟩ c' v ⟨g3,HI (iS.fr.mono g4) _ g5⟩ g4 (by rw[hal]; exact hkeep) rfl (fun hC=>(hC K9).elim) g6
 ·rename_i K9;split at hk <;> (try cases hk);rename_i cl P1;obtain ⟨g,args,h1,nx,w1,h2,h3⟩:=callK_sound hE iS.wf P1 hρ hk;rw[h1,h2];have fin:∀d w',(∃v h' c',WF w' h' c'∧Ext w st.hp c w' h' c'∧dx w' h' c' v d∧k ⟨nF st.fr o.dst v,h'⟩=some r∧yZ false 0 st.hp h'∧((drawn.isNone || !pP E o.op)=false→h'=st.hp))→next (a.put o.dst d) w':=by
   rintro d w' ⟨v,h',c',q1,q2,q3,q4,q5,q6⟩
   exact hn d w' ⟨nF st.fr o.dst v,h'⟩ c' v ⟨q1,HI (iS.fr.mono q2) _ q3⟩ q2 q5.weak rfl (fun _ hd i _=>by rw[q6 (hd K9)]) q4
  cases nx <;> simp only at h3
  ·rw[Oper.upon_value]; exact fin _ _ h3
  ·rw[Oper.upon_enter];exact Calls.mono h3 fun e w' ⟨d,e1,q⟩=>by subst e1; exact fin d w' q
  ·rw[Oper.upon_row];exact Rows.mono h3 fun d w' q=>fin d w' q
 ·cases hk
 ·cases hk
end
section
variable {P:Program} {tt:dn} {w w':World} {h h':aN} {c c':j8} {R:Type}
theorem set_same {fr:List V} {d:Nat} {v:V} (h:fr.getD d .undef=v) (hv:v ≠ .undef):fr.set d v=fr:=by
 have hd:d<fr.length:=by
  rcases Nat.lt_or_ge d fr.length with hl|hl
  ·exact hl
  ·simp[List.getD,List.getElem?_eq_none hl]at h; exact (hv h.symm).elim
 have e:fr[d]=v:=by simpa [List.getD,List.getElem?_eq_getElem hd]using h
 rw[←e];exact List.set_getElem_self hd
theorem Ik {all:List Oper} {o:Oper} {st:St} {run skip:St→Option R}:Bt all o st run skip =
  match o.guard with
  | none=>run st
  | some (j,want) =>
   match (all[j]?).bind (·.dst)with
   | none=>none
   | some d=>match st.fr.getD d .undef with | .bool b=>if b=want then run st else skip st | .tuple []=>skip st|_=>none:=by
 unfold Bt;cases o.guard with
 | none=>rfl
 | some jw =>
  obtain ⟨j,want⟩:=jw;simp only;cases (all[j]?).bind (·.dst)with
  | none=>rfl
  | some d =>
   simp only;cases hb:st.fr.getD d .undef with
   | bool b =>
    have e:(⟨st.fr.set d (.bool b),st.hp⟩:St)=st:=by rw[set_same hb (by simp)]
    cases b <;> cases want <;> simp[e]
   | tuple vs=>cases vs <;> rfl
   | _=>rfl
theorem Nu {ops:Array Oper} {o:Oper} {st:St} {a:Act} (iS:TP w c st a) {run skip:St→Option R} {r:R} (hk:Bt ops.toList o st run skip=some r) :
  (Region.wanted o (yielded ops a.tmps)=true∧run st=some r)∨(Region.wanted o (yielded ops a.tmps)=false∧skip st=some r):=by
 rw[Ik]at hk;unfold Region.wanted;split at hk
 ·rename_i hg; simp only[hg]; exact .inl ⟨trivial,hk⟩
 ·rename_i j want hg;simp only[hg];split at hk <;> (try cases hk);rename_i d hd;have hl:∀v,st.fr.getD d .undef=v→v ≠ .undef→d<st.fr.length:=fun v hv jW=>by
   rcases Nat.lt_or_ge d st.fr.length with hl|hl
   ·exact hl
   ·simp[List.getD,List.getElem?_eq_none hl]at hv; exact (jW hv.symm).elim
  have key:∀v,st.fr.getD d .undef=v→v ≠ .undef→∃x,a.tmps[d]? = some x∧dx w st.hp c v x:=fun v hb jW=>by
   have hl:=hl v hb jW;have hl2:d<a.tmps.size:=by rw[←(by simpa using iS.fr.1:st.fr.length=a.tmps.size)]; exact hl
   exact ⟨a.tmps[d],Array.getElem?_eq_getElem hl2,iS.fr.2 d v a.tmps[d] (by rw[List.getElem?_eq_getElem hl]; simpa [List.getD,List.getElem?_eq_getElem hl]using hb) (by simp)⟩
  have hd':(ops[j]?).bind (·.dst)=some d:=by simpa using hd
  split at hk <;> (try cases hk)
  ·rename_i b hb;obtain ⟨x,hx,rv⟩:=key _ hb (by simp);have hy:yielded ops a.tmps j=some b:=by
    unfold yielded;rw[hd'];simp only[Option.bind_some,hx];cases rv;rfl
   rw[hy];split at hk
   ·rename_i hw; subst hw; exact .inl ⟨by simp,hk⟩
   ·rename_i hw; exact .inr ⟨by simpa using hw,hk⟩
  ·rename_i hb;obtain ⟨x,hx,rv⟩:=key _ hb (by simp);have hy:yielded ops a.tmps j=none:=by
    unfold yielded;rw[hd'];simp only[Option.bind_some,hx];cases rv;rfl
   rw[hy];exact .inr ⟨by simp,hk⟩
theorem Xi:dx w h c (.tuple []) undef := .tuple rfl (by simp)
def Goes (w:World) (c:j8) (st:St) (a:Act) (k:St→Option R) (r:R) (K:Act→World→Prop):Prop :=
 ∀a' w' yY c',TP w' c' yY a'→Ext w st.hp c w' yY.hp c'→a'.defers=a.defers→k yY=some r→K a' w'
def Slots (tt:dn) (rest:List Oper) (id:Nat) (h:aN):Prop:=∀j,id≤j→j<id+(rest.filter (cf tt)).length→j<h.length∧h.at j = .free
theorem TQ (T:CU P tt) {E:Env R} (hE:EOk P E) {ops:Array Oper} {k:St→Option R} {r:R} {Q:Exit→Act→World→Prop}:∀(rest:List Oper) (n id:Nat) (w:World) (c:j8) (st:St) (a:Act),
  ops.toList.drop n=rest→opsK tt E none ops.toList rest id st k=some r→TP w c st a→Slots tt rest id st.hp→Goes w c st a k r (Q .normal)→wpOps P ops Q (List.range' n rest.length) a w
 | [],n,id,w,c,st,a,_,hk,iS,_,go=>go a w st c iS (.refl _ _ _) rfl hk
 | o::rest,n,id,w,c,st,a,hd,hk,iS,hs,go=>by
  have hn:ops[n]? = some o:=by
   have:(ops.toList.drop n)[0]? = some o:=by rw[hd]; rfl
   rw[List.getElem?_drop]at this;simpa using this
  have hd':ops.toList.drop (n+1)=rest:=by
   have:(ops.toList.drop n).drop 1=rest:=by rw[hd]; rfl
   rwa [List.drop_drop]at this
  rw[List.length_cons,List.range'_succ,wpOps_cons];unfold wpOp;simp only[hn];simp only[opsK,Nd]at hk;have hsl:∀h',yZ (cf tt o) id st.hp h'→Slots tt rest (if cf tt o then id+1 else id) h':=by
   intro h' kp j h1 h2;cases ha:cf tt o with
   | true =>
    rw[ha]at h1 h2 kp;simp only[if_true]at h1 h2;obtain ⟨g1,g2⟩:=hs j (by omega) (by rw[List.filter_cons_of_pos ha,List.length_cons]; omega);exact ⟨Nat.lt_of_lt_of_le g1 kp.1,kp.2 j (fun _=>by omega) g1 g2⟩
   | false =>
    rw[ha]at h1 h2 kp;simp only[Bool.false_eq_true,if_false]at h1 h2;obtain ⟨g1,g2⟩:=hs j (by omega) (by rw[List.filter_cons_of_neg (by simp[ha])]; omega);exact ⟨Nat.lt_of_lt_of_le g1 kp.1,kp.2 j (fun h=>by cases h) g1 g2⟩
  rcases Nu iS hk with ⟨hw,hk⟩|⟨hw,hk⟩
  ·rw[if_pos hw];refine .inl (Qa T hE hk iS (fun ha=>hs id (Nat.le_refl _) (by rw[List.filter_cons_of_pos ha,List.length_cons]; omega)) fun d w' yY c' v sim' x kp _ _ vH => ?_);refine TQ T hE rest (n+1) _ w' c' yY _ hd' vH sim' (hsl _ kp) fun a2 w2 JI c2 s2 x2 d2 k2 => ?_
   exact go a2 w2 JI c2 s2 (x.trans x2) (d2.trans (put_defers _ _ _)) k2
  ·rw[if_neg (by simp[hw])];refine TQ T hE rest (n+1) _ w c ⟨nF st.fr o.dst (.tuple []),st.hp⟩ _ hd' hk ⟨iS.wf,HI iS.fr _ Xi⟩ (hsl _ (.refl _ _ _)) fun a2 w2 JI c2 s2 x2 d2 k2 => ?_
   exact go a2 w2 JI c2 s2 x2 (d2.trans (put_defers _ _ _)) k2
theorem ZR {n i:Nat}:aN.at (h++List.replicate n .free) i=h.at i∨(h.length≤i∧aN.at (h++List.replicate n .free) i = .free):=by
 rcases Nat.lt_or_ge i h.length with hi|hi
 ·exact .inl (kL hi)
 ·rcases Nat.lt_or_ge (i - h.length) n with hj|hj
  ·refine .inr ⟨hi,?_⟩;rw[jX hi];simp[aN.at,List.getD,List.getElem?_replicate,hj]
  ·refine .inl ?_;rw[jX hi];have h1:¬(i - h.length<n):=by omega
   have h2:¬(i<h.length):=by omega
   simp[aN.at,List.getD,List.getElem?_replicate,h1,List.getElem?_eq_none hi]
theorem at_out {i:Nat} (hi:h.length≤i):h.at i = .dead:=by simp[aN.at,List.getD,List.getElem?_eq_none hi]
theorem slots_owns {n b x:Nat}:yt (h++List.replicate n .free) c b x↔yt h c b x:=by
 constructor
 ·rintro ⟨i,f,h1,h2,h3⟩
  rcases ZR (h:=h) (n:=n) (i:=i)with e|⟨_,e⟩
  ·exact ⟨i,f,h1,e▸h2,h3⟩
  ·rw[e]at h2; cases h2
 ·rintro ⟨i,f,h1,h2,h3⟩
  rcases ZR (h:=h) (n:=n) (i:=i)with e|⟨hi,e⟩
  ·exact ⟨i,f,h1,e.symm▸h2,h3⟩
  ·rw[at_out hi]at h2; cases h2
theorem yv (n:Nat):Ext w h c w (h++List.replicate n .free) c where
 os:=rfl
 tape:=rfl
 output:=rfl
 size:=Nat.le_refl _
 used:=fun i hi=>⟨by simp; have:=hi.1; omega,by
  rw[kL hi.1]; exact hi.2⟩
 same:=fun i hi hd=>by
  rw[kL hi.1]at hd ⊢;exact ⟨L8 (R1 hi.2 hd) (fun _ _ _ => .inr trivial),rfl,rfl⟩
 cell:=fun _ _ _ _=>rfl
 block:=fun _ _ _=>rfl
 CF:=fun b x _ ho=>slots_owns.1 ho
 ext:=rfl
 arr:=fun b arr e fz hb=>⟨arr,fz,hb,rfl⟩
theorem Qb (wf:WF w h c) (n:Nat):WF w (h++List.replicate n .free) c where
 lay:=wf.wQ (yv n)
 Ev:=fun b x ho=>wf.Ev b x (slots_owns.1 ho)
 sB:=wf.sB
 obj:=fun i hi=>by
  rcases ZR (h:=h) (n:=n) (i:=i)with e|⟨_,e⟩
  ·rw[e];rcases Nat.lt_or_ge i h.length with hl|hl
   ·have ho:=wf.obj i hl;by_cases hv:(h.at i).live
    ·exact ho.Ar (yv n) (fun _ _=>rfl) rfl rfl
    ·have h0:h.at i = .free∨h.at i = .dead:=by revert hv; cases h.at i <;> simp[cb.live]
     rcases h0 with h0|h0 <;> rw[h0] <;> trivial
   ·rw[at_out hl]; trivial
  ·rw[e]; trivial
 inj:=fun i j b hi hj h1 h2=>by
  have hl:∀i,(aN.at (h++List.replicate n .free) i).live→(h.at i).live:=fun i hi=>by
   rcases ZR (h:=h) (n:=n) (i:=i)with e|⟨_,e⟩
   ·rw[e]at hi; exact hi
   ·rw[e]at hi; exact hi.elim
  exact wf.inj i j b (hl i hi) (hl j hj) h1 h2
theorem region_sound (T:CU P tt) {E:Env R} (hE:EOk P E) {id:Nat} {ops:Array Oper} {k:St→Option R} {r:R} {Q:Exit→Act→World→Prop} {st:St} {a:Act}
  (hk:RY tt E ops.toList false st k=some r) (iS:TP w c st a) (go:Goes w c st a k r (Q .normal)):(Code.region id ops false).wp P Q a w:=by
 refine wp_region ?_;simp only[RY,Bool.false_eq_true,if_false]at hk;have:=TQ T hE (ops:=ops) (Q:=Q) ops.toList 0 st.hp.length w c _ a rfl hk ⟨Qb iS.wf _,iS.fr.mono (yv _)⟩ ?_ ?_
 ·rw[List.range_eq_range'];simpa using this
 ·intro j h1 h2;refine ⟨by simp; omega,?_⟩;rw[jX h1];have:j - st.hp.length<(ops.toList.filter (cf tt)).length:=by omega
  simp[aN.at,List.getD,List.getElem?_replicate,this]
 ·exact fun a2 w2 JI c2 s2 x2 d2 k2=>go a2 w2 JI c2 s2 ((yv _).trans x2) d2 k2
end
section
variable {P:Program} {tt:dn} {w w':World} {h h':aN} {c c':j8} {R:Type}
def one (tt:dn) (E:Env R) (S:Option (Bool×List Nat)) (base:Nat) (all:List Oper) (o:Oper) (id:Nat) (st:St) (k:St→Option R):Option R :=
 Bt all o st (fun st=>bif TE tt E base S all o (ev st.fr) st.hp then F4 tt E (drS tt S base o) id o st k else none) (fun st=>k ⟨nF st.fr o.dst (.tuple []),st.hp⟩)
abbrev B9:=Nat×Oper×Nat
def PD (tt:dn) (E:Env R) (S:Option (Bool×List Nat)) (base:Nat) (all:List Oper):List B9→St→(St→Option R)→Option R
 | [],st,k=>k st
 | x::rest,st,k=>one tt E S base all x.2.1 x.2.2 st fun st=>PD tt E S base all rest st k
def number (tt:dn):List Oper→Nat→Nat→List B9
 | [],_,_ => []
 | o::rest,i,id=>(i,o,id)::number tt rest (i+1) (if cf tt o then id+1 else id)
theorem opsK_eq {E:Env R} {base:Nat} {all:List Oper}:∀(l:List Oper) (i id:Nat) (st:St) (k:St→Option R),
  opsK tt E (some base) all l id st k=PD tt E none base all (number tt l i id) st k
 | [],_,_,_,_=>rfl
 | o::l,i,id,st,k=>by
  simp only[opsK,Nd,number,PD,one,TE,drS,cond_true];congr 1
  ·funext st;congr 1;funext st;exact opsK_eq l _ _ _ _
  ·funext st;exact opsK_eq l _ _ _ _
theorem ZS {E:Env R} {A:Bool×List Nat} {base:Nat} {all:List Oper}:∀(l:List Oper) (i id:Nat) (st:St) (k:St→Option R),
  opsS tt E base A all l id st k=PD tt E (some A) base all (number tt l i id) st k
 | [],_,_,_,_=>rfl
 | o::l,i,id,st,k=>by
  simp only[opsS,Nd,number,PD,one];congr 1
  ·funext st;congr 1;congr 1;funext st;exact ZS l _ _ _ _
  ·funext st;exact ZS l _ _ _ _
theorem drS_ne {S:Option (Bool×List Nat)} {base:Nat} {o:Oper} (h:fE tt o.op ≠ .W):drS tt S base o=some base:=by
 unfold drS;split
 ·split
  ·rename_i hc; exact (h hc).elim
  ·rfl
 ·rfl
theorem drS_some {S:Option (Bool×List Nat)} {base:Nat} {o:Oper} (h:S.map (·.1)≠some true):drS tt S base o=some base:=by
 unfold drS;split
 ·exact (h rfl).elim
 ·rfl
structure Eff where
 dst:Option Nat
 v:V
 put:Option (Nat×cb)
def Eff.hp (e:Eff) (h:aN):aN:=match e.put with|none=>h|some (i,ob)=>h.set i ob
def eff (st:St) (e:Eff):St:=⟨nF st.fr e.dst e.v,e.hp st.hp⟩
theorem putF_getD {fr:List V} {dst:Option Nat} {v:V} {t:Nat} (h:dst≠some t):(nF fr dst v).getD t .undef=fr.getD t .undef:=by
 cases dst with
 | none=>rfl
 | some d =>
  have:d≠t:=fun e=>h (by rw[e])
  simp[nF,List.getD,List.getElem?_set_ne this]
theorem putF_comm {fr:List V} {x y:Option Nat} {u v:V} (h:∀d,x=some d→y≠some d):nF (nF fr x u) y v=nF (nF fr y v) x u:=by
 cases x with
 | none=>rfl
 | some d =>
  cases y with
  | none=>rfl
  | some e =>
   have:d≠e:=fun he=>h d rfl (by rw[he])
   simp only[nF];exact List.set_comm _ _ this
theorem L9 {fr fr':List V} {o:Oper} {all:List Oper} (h:∀t∈looks all o,fr'.getD t .undef=fr.getD t .undef):∀x∈o.op.operands,ev fr' x=ev fr x:=by
 intro x hx;cases x with
 | tmp t=>exact h t (List.mem_append_left _ (List.mem_filterMap.2 ⟨.tmp t,by simpa using hx,rfl⟩))
 | _=>rfl
theorem guard_of {fr fr':List V} {hp hp':aN} {o:Oper} {all:List Oper} (h:∀t∈looks all o,fr'.getD t .undef=fr.getD t .undef) {run skip run' skip':St→Option R}
  (hr:run' ⟨fr',hp'⟩=run ⟨fr,hp⟩) (hs:skip' ⟨fr',hp'⟩=skip ⟨fr,hp⟩):Bt all o ⟨fr',hp'⟩ run' skip'=Bt all o ⟨fr,hp⟩ run skip:=by
 rw[Ik,Ik];cases hg:o.guard with
 | none=>exact hr
 | some jw =>
  obtain ⟨j,want⟩:=jw;simp only;cases hd:(all[j]?).bind (·.dst)with
  | none=>rfl
  | some d =>
   have:=h d (by
    refine List.mem_append_right _ ?_;simp only[hg,hd];simp)
   simp only[this,hr,hs]
theorem opR_heap {o:Op} {ρ:Operand→V} {lim:Option Nat} {h2:aN} (e:∀i∈CX o ρ,Pb lim i=true→(h2.at i).rd=(h.at i).rd) {k:V→Option R}:opR tt o ρ h2 lim k=opR tt o ρ h lim k:=by
 have e':∀i∈CX o ρ,Pb lim i=true→h2.at i=h.at i∨((h2.at i = .tok∨h2.at i = .dead∨h2.at i = .free)∧(h.at i = .tok∨h.at i = .dead∨h.at i = .free)):=fun i hm hi=>rd_eq (e i hm hi)
 clear e;cases o <;> simp only[opR]
 case load t x =>
  split
  ·rename_i i o hx;split
   ·rename_i hl;rcases e' i (by simp[CX,hx,V.ids]) hl with h1|⟨h1|h1|h1,g2|g2|g2⟩ <;> (first|(simp only[h1,g2]; done)|(simp only[h1]; done)|rfl|(simp only[h1,g2]; (repeat' split) <;> first|rfl|contradiction|simp_all))
   ·rfl
  ·rfl
  ·rename_i i _ _ _ hx;split
   ·rename_i hl;rcases e' i (by simp[CX,hx,V.ids]) hl with h1|⟨h1|h1|h1,g2|g2|g2⟩ <;> (first|(simp only[h1,g2]; done)|(simp only[h1]; done)|(simp only[h1,g2]; (repeat' split) <;> first|rfl|contradiction|simp_all))
   ·rfl
  ·rfl
 case lookup t x ix ok =>
  split
  ·rename_i kt vt i _ hx;split
   ·rename_i hl;rcases e' i (by simp[CX,hx,V.ids]) hl with h1|⟨h1|h1|h1,g2|g2|g2⟩ <;> (first|simp only[h1,g2]|simp only[h1])
   ·rfl
  ·rfl
 case convert s d x =>
  split
  ·rename_i i _ _ _ hx;split
   ·rename_i hl;rcases e' i (by simp[CX,hx,V.ids]) hl with h1|⟨h1|h1|h1,g2|g2|g2⟩ <;> (first|(simp only[h1,g2]; done)|(simp only[h1]; done)|(simp only[h1,g2]; (repeat' split) <;> first|rfl|contradiction|simp_all))
   ·rfl
  ·rfl
  ·rfl
  ·rfl
def Kh (S:Option (Bool×List Nat)) (E:Env R) (all:List Oper) (tt:dn) (base:Nat) (x:Oper) (st JI:St):Prop :=
 (∀t∈looks all x,JI.fr.getD t .undef=st.fr.getD t .undef)∧(fE tt x.op = .R→∀i,i<base→(∀A,S=some (true,A)→farR tt E all x=true→i∈A)→(∀A,S=some (false,A)→farR2 tt E all x=true→i∉A)→(JI.hp.at i).rd=(st.hp.at i).rd)
def turns (tt:dn) (E:Env R) (o:Op):Prop:=(dR tt E o = .W∧vG o=false)∨(dR tt E o = .F∧mQ E o=false)
def Kept (S:Option (Bool×List Nat)) (tt:dn) (E:Env R) (all:List Oper) (base:Nat) (o:Oper) (h h':aN):Prop :=
 (∀i,i<base→(h'.at i).rd=(h.at i).rd)∨((turns tt E o.op∨(S.map (·.1)=some true∧vG o.op=true))∧(dR tt E o.op = .F→∀A,S=some (true,A)→∀i∈A,(h'.at i).rd=(h.at i).rd)∧(viaS all o=true→∀A,S=some (false,A)→∀i,i∉A→(h'.at i).rd=(h.at i).rd))
theorem vK {E:Env R} {o:Op} (h:fE tt o ≠ .C):dR tt E o=fE tt o:=by
 unfold dR;split
 ·rename_i hc; exact (h hc).elim
 ·rfl
def calm (a:Cls):Bool:=match a with | .P | .R | .A=>true|_=>false
theorem readIds_congr {o:Op} {ρ ρ':Operand→V} (h:∀x∈o.operands,ρ' x=ρ x):CX o ρ'=CX o ρ:=by
 cases o <;> simp only[CX] <;> rw[h _ (by simp[Op.operands])]
theorem storeIds_congr {o:Op} {ρ ρ':Operand→V} (h:∀x∈o.operands,ρ' x=ρ x):Iy o ρ'=Iy o ρ:=by
 cases o <;> simp only[Iy] <;> rw[h _ (by simp[Op.operands])]
theorem callIds_congr {o:Op} {ρ ρ':Operand→V} {hp:aN} (h:∀x∈o.operands,ρ' x=ρ x):nc o ρ' hp=nc o ρ hp:=by
 unfold nc;split
 ·rename_i cl;split
  ·rename_i f hf;have e1:ρ' f=ρ f:=h f (by simp[Op.operands,Call.operands,hf]);have e2:cl.args.toList.map ρ'=cl.args.toList.map ρ:=List.map_congr_left fun z hz=>h z (by simp[Op.operands,Call.operands]; exact .inr (by simpa using hz))
   rw[e1,e2]
  ·rfl
 ·rfl
theorem okS_frame {E:Env R} {base:Nat} {S:Option (Bool×List Nat)} {all:List Oper} {x:Oper} {fr fr':List V} {hp:aN} (h:∀t∈looks all x,fr'.getD t .undef=fr.getD t .undef):TE tt E base S all x (ev fr') hp=TE tt E base S all x (ev fr) hp:=by
 cases S with
 | none=>rfl
 | some A=>obtain ⟨m,A⟩:=A; cases m <;> simp only[TE] <;> rw[readIds_congr (L9 h),storeIds_congr (L9 h)] <;> rw[callIds_congr (L9 h)]
theorem okS_calm {E:Env R} {base:Nat} {S:Option (Bool×List Nat)} {all:List Oper} {x:Oper} {fr fr':List V} {hp hp':aN} (hc:calm (fE tt x.op)=true) (h:∀t∈looks all x,fr'.getD t .undef=fr.getD t .undef):TE tt E base S all x (ev fr') hp'=TE tt E base S all x (ev fr) hp:=by
 rw[okS_frame (fr:=fr) h];cases S with
 | none=>rfl
 | some A =>
  obtain ⟨m,A⟩:=A;cases m <;> simp only[TE] <;> revert hc <;> cases fE tt x.op <;> simp[calm]
theorem one_nat {E:Env R} {S:Option (Bool×List Nat)} {base:Nat} {all:List Oper} {x:Oper} {id:Nat} {st:St} {k0:St→Option R} {r:R} (hc:calm (fE tt x.op)=true) (hk:one tt E S base all x id st k0=some r) :
  ∃e:Eff,e.dst=x.dst∧(∀i ob,e.put=some (i,ob)→i=id∧fE tt x.op = .A)∧k0 (eff st e)=some r∧∀JI,Kh S E all tt base x st JI→∀k,one tt E S base all x id JI k=k (eff JI e):=by
 unfold one at hk ⊢
 
 have hgu:∀JI,Kh S E all tt base x st JI→∀(run skip:St→Option R),Bt all x JI run skip=Bt all x st (fun _=>run JI) (fun _=>skip JI):=by
  intro JI ha run skip;obtain ⟨fr,hp⟩:=st;obtain ⟨fr2,hp2⟩:=JI;exact guard_of ha.1 rfl rfl
 have hsame:∀run skip:St→Option R,(∀run' skip':St→Option R,Bt all x st run' skip'=run' st)∨(∀run' skip':St→Option R,Bt all x st run' skip'=skip' st)∨Bt all x st run skip=none:=by
  intro run skip;simp only[Ik];cases x.guard with
  | none=>exact .inl fun _ _=>rfl
  | some jw =>
   obtain ⟨j,want⟩:=jw;simp only;cases (all[j]?).bind (·.dst)with
   | none=>exact .inr (.inr rfl)
   | some d =>
    simp only;cases st.fr.getD d .undef with
    | bool b=>by_cases hb:b=want <;> simp[hb]
    | tuple vs =>
     cases vs with
     | nil=>exact .inr (.inl fun _ _=>rfl)
     | cons _ _=>exact .inr (.inr rfl)
    | _=>exact .inr (.inr rfl)
 rcases hsame _ _ with hg|hg|hg
 ·rw[hg]at hk;obtain ⟨hS,hk⟩:TE tt E base S all x (ev st.fr) st.hp=true∧F4 tt E (drS tt S base x) id x st k0=some r:=by
   cases hS:TE tt E base S all x (ev st.fr) st.hp with
   | true=>rw[hS]at hk; exact ⟨rfl,hk⟩
   | false=>rw[hS]at hk; cases hk
  have hnW:fE tt x.op ≠ .W:=fun e=>by rw[e]at hc; cases hc
  rw[drS_ne hnW]at hk ⊢;have hS2:∀JI,Kh S E all tt base x st JI→TE tt E base S all x (ev JI.fr) JI.hp=true:=fun JI ha=>by rw[←hS]; exact okS_calm hc ha.1
  unfold F4 at hk;simp only at hk;split at hk
  ·rename_i K9;obtain ⟨v,h1,h2⟩:=opP_nat hk;refine ⟨⟨x.dst,v,none⟩,rfl,by simp,h1,fun JI ha k => ?_⟩;rw[hgu JI ha,hg,hS2 JI ha,cond_true];simp only[F4,K9];rw[opP_congr (L9 ha.1),h2];rfl
  ·rename_i K9;obtain ⟨v,h1,h2⟩:=opR_nat hk;refine ⟨⟨x.dst,v,none⟩,rfl,by simp,h1,fun JI ha k => ?_⟩;rw[hgu JI ha,hg,hS2 JI ha,cond_true];simp only[F4,K9];rw[opR_congr (L9 ha.1),opR_heap (h:=st.hp) fun i hm hi=>ha.2 K9 i (by simpa [Pb]using hi) (fun A hA hf => ?_) fun A hA hf => ?_,h2 _ fun i hi=>rfl]
   ·rfl
   ·subst hA;simp only[TE,K9,hf,Bool.not_true,Bool.false_or,List.all_eq_true]at hS;simpa using hS i hm
   ·subst hA;simp only[TE,K9,hf,Bool.not_true,Bool.false_or,List.all_eq_true]at hS;simpa using hS i hm
  ·rename_i K9;obtain ⟨ob,mk,h1,h2⟩:=opA_nat hk;refine ⟨⟨x.dst,mk id,some (id,ob)⟩,rfl,by simp[K9],h1,fun JI ha k => ?_⟩;rw[hgu JI ha,hg,hS2 JI ha,cond_true];simp only[F4,K9];rw[opA_congr (L9 ha.1),h2];rfl
  all_goals (rename_i K9; rw[K9]at hc; cases hc)
 ·rw[hg]at hk;refine ⟨⟨x.dst, .tuple [],none⟩,rfl,by simp,hk,fun JI ha k => ?_⟩;rw[hgu JI ha,hg];rfl
 ·rw[hg]at hk; cases hk
theorem apart_spec {all:List Oper} {x y:Oper} (h:EZ all x y=true) :
  (∀d,x.dst=some d→d∉looks all y)∧(∀d,x.dst=some d→y.dst≠some d)∧(∀d,y.dst=some d→d∉looks all x):=by
 refine ⟨fun d hd => ?_,fun d hd => ?_,fun d hd => ?_⟩ <;> simp[EZ,hd]at h
 ·exact h.1.1
 ·exact h.1.2
 ·exact h.2
theorem Nv {fr:List V} {c:Value} {g:Nat} {a b:List V} (h:ev fr (.const c) = .func g a b):False:=by
 simp only[ev]at h;unfold ofConst at h;split at h
 ·cases h
 ·unfold P3 at h;split at h <;> (try split at h) <;> cases h
theorem TR {i:Nat}:∀(n:Nat) (todo seen:List Nat),i∈seen→i∈reach h n todo seen
 | 0,_,_,hi=>hi
 | _+1, [],_,hi=>hi
 | n+1,j::todo,seen,hi=>by
  unfold reach;split
  ·exact TR n _ _ hi
  ·exact TR n _ _ (by simp[hi])
theorem R3 {i:Nat} {ob:cb}:∀(n:Nat) (todo seen:List Nat),i∉reach h n todo seen→reach (h.set i ob) n todo seen=reach h n todo seen
 | 0,_,_,_=>rfl
 | _+1, [],_,_=>rfl
 | n+1,j::todo,seen,hi=>by
  unfold reach at hi ⊢;split
  ·rename_i hc;rw[if_pos hc]at hi;exact R3 n _ _ hi
  ·rename_i hc;rw[if_neg hc]at hi;have jW:i≠j:=by
    rintro rfl
    exact hi (TR n _ _ (by simp))
   rw[cF _ jW];exact R3 n _ _ hi
theorem set_set {i:Nat} {ob:cb}:(h.set i ob).set i (h.at i)=h:=by
 rw[List.set_set];apply List.ext_getElem?;intro j;rw[List.getElem?_set];split
 ·rename_i e;subst e;split
  ·rename_i hl;simp[aN.at,List.getD,List.getElem?_eq_getElem hl]
  ·rename_i hl;exact (List.getElem?_eq_none (by omega)).symm
 ·rfl
theorem Yg {o:Op} {ρ:Operand→V} {i:Nat} {ob:cb} (hi:i∉nc o ρ h):nc o ρ (h.set i ob)=nc o ρ h:=by
 unfold nc at hi ⊢;split at hi <;> try rfl
 split at hi <;> try rfl
 split at hi <;> try rfl
 exact R3 _ _ _ hi
theorem callIds_set2 {o:Op} {ρ:Operand→V} {i:Nat} {ob:cb} (hi:i∉nc o ρ (h.set i ob)):nc o ρ (h.set i ob)=nc o ρ h:=by
 have h1:=Yg (ob:=h.at i) hi;rw[set_set]at h1;exact h1.symm
theorem pick_set {i:Nat} {ob:cb} {ord:List Nat} (hi:i∉ord):aN.pick (h.set i ob) ord=h.pick ord:=by
 unfold aN.pick;refine List.map_congr_left fun j hj => ?_
 rw[cF _ (by rintro rfl; exact hi hj)]
theorem putAll_set {i:Nat} {ob:cb}:∀(l:List (Nat×cb)) (h:aN),(∀x∈l,x.1≠i)→aN.GK (h.set i ob) l=(aN.GK h l).set i ob
 | [],_,_=>rfl
 | x::l,h,hl=>by
  simp only[aN.GK];rw[List.set_comm _ _ (Ne.symm (hl x (by simp)))];exact putAll_set l _ fun y hy=>hl y (by simp[hy])
theorem back_set {i:Nat} {ob:cb} {ord:List Nat} (hi:i∉ord) (hl:i<h.length) (h':aN):aN.back (h.set i ob) ord h'=(h.back ord h').set i ob:=by
 unfold aN.back;simp only[List.length_set];rw[putAll_set _ _ fun x hx=>by
  have:=(List.of_mem_zip hx).1
  rintro rfl
  exact hi this]
 rw[List.set_append_left _ _ (by rw[fP]; exact hl)]
theorem callK_set {E:Env R} {cl:Call} (hp:pP E (.call cl)=false) (hs:mQ E (.call cl)=false) {full:Bool} {fr:List V} {i:Nat} {ob:cb} (hi:i∉nc (.call cl) (ev fr) h) (hl:i<h.length) {k:V→aN→Option R} :
  EM tt E full cl (ev fr) (h.set i ob) k=EM tt E full cl (ev fr) h fun v h'=>k v (h'.set i ob):=by
 unfold EM;split
 ·rename_i f hf;split
  ·rename_i g first cap hg
   simp only;have hids:nc (.call cl) (ev fr) h=reach h 64 (V.yr (first++cl.args.toList.map (ev fr)++cap)) []:=by simp only[nc,hf,hg]
   rw[hids]at hi;split
   ·exfalso;rename_i hsp;cases f with
    | tmp t=>simp[pP,hf]at hp
    | func g' =>
     simp only[ev,V.func.injEq]at hg;obtain ⟨rfl,_,_⟩:=hg;simp[pP,hf,hsp]at hp
    | const c=>exact Nv hg
    | global _=>simp[ev]at hg
   ·rename_i sp hsp;cases full
    ·rfl
    ·simp only[cond_true];cases hg0:pW.soft g with
     | true =>
      exfalso;cases f with
      | tmp t=>simp[pP,hf]at hp
      | func g' =>
       simp only[ev,V.func.injEq]at hg;obtain ⟨rfl,_,_⟩:=hg;simp[mQ,hf,hg0,hsp]at hs
      | const c=>exact Nv hg
      | global _=>simp[ev]at hg
     | false =>
      simp only[cond_false];rw[R3 _ _ _ hi,pick_set hi];congr 1;funext v h';rw[back_set hi hl,List.length_set]
   ·rfl
  ·rfl
 ·rfl
theorem callK_congr {E:Env R} {cl:Call} {full:Bool} {ρ ρ':Operand→V} (hop:∀z∈cl.operands,ρ' z=ρ z) {k:V→aN→Option R}:EM tt E full cl ρ' h k=EM tt E full cl ρ h k:=by
 have hargs:cl.args.toList.map ρ'=cl.args.toList.map ρ:=List.map_congr_left fun z hz=>hop z (by simp[Call.operands]; exact .inr (by simpa using hz))
 unfold EM;split
 ·rename_i f hf;rw[hop f (by simp[Call.operands,hf]),hargs]
 ·rfl
theorem one_eff {E:Env R} {S:Option (Bool×List Nat)} {base:Nat} {all:List Oper} {x y:Oper} {e:Eff} {ix id:Nat} (P1:SR (dR tt E x.op) (dR tt E y.op)=true∨(vG y.op=true∧S.map (·.1)≠some true∧(cf tt x=true→id<ix))∨(fE tt x.op = .R∧vG y.op=true)∨(fE tt x.op = .R∧mQ E y.op=true)∨(fE tt x.op = .R∧dR tt E y.op = .F)∨(fE tt x.op = .A∧S.map (·.1)=some true∧dR tt E y.op = .F∧mQ E y.op=false∧U9 tt all base y≤ix)∨(fE tt x.op = .R∧fE tt y.op = .W)) (hap:EZ all x y=true) (hc:calm (fE tt x.op)=true) (he:e.dst=x.dst)
  (hput:∀i ob,e.put=some (i,ob)→i=ix∧fE tt x.op = .A) (hid:cf tt x=true→cf tt y=true→ix≠id) (hb:cf tt x=true→base≤ix) (ht:cf tt x=true→ix<base+(all.filter (cf tt)).length) (st:St) (k:St→Option R) :
  one tt E S base all y id (eff st e) k=one tt E S base all y id st fun Xj=>k (eff Xj e):=by
 obtain ⟨a1,a2,a3⟩:=apart_spec hap;have hl:∀t∈looks all y,(nF st.fr e.dst e.v).getD t .undef=st.fr.getD t .undef:=fun t ht=>putF_getD fun h=>a1 t (he▸h) ht
 have Yh:∀u,nF (nF st.fr e.dst e.v) y.dst u=nF (nF st.fr y.dst u) e.dst e.v:=fun u=>putF_comm fun d hd=>a2 d (he▸hd)
 obtain ⟨fr,hpp⟩:=st;simp only at hl Yh;have hokS:TE tt E base S all y (ev (nF fr e.dst e.v)) (e.hp hpp)=TE tt E base S all y (ev fr) hpp:=by
  rw[okS_frame hl]
  match S,P1 with
  | none,_=>rfl
  | some (false,A),_=>simp only[TE]
  | some (true,A),P1 =>
   simp only[TE];split
   ·rfl
   ·rename_i GQ;cases hf:isF tt E y.op with
    | false=>rfl
    | true =>
     have hF:dR tt E y.op = .F:=by revert hf; unfold isF; cases dR tt E y.op <;> simp
     cases hq:e.put with
     | none=>simp only[Eff.hp,hq]
     | some jo =>
      obtain ⟨j,ob⟩:=jo;obtain ⟨rfl,hA⟩:=hput j ob hq;have hna:vG y.op=true→False:=fun ha=>by rw[Nt ha]at GQ; cases GQ
      rcases P1 with P1|⟨h,_⟩|⟨_,h⟩|⟨h,_⟩|⟨h,_⟩|⟨_,_,_,hsf,hbj⟩|⟨h,_⟩
      ·rw[vK (by rw[hA]; simp),hF,hA]at P1;cases P1
      ·exact (hna h).elim
      ·exact (hna h).elim
      ·rw[hA]at h; cases h
      ·rw[hA]at h; cases h
      ·simp only[Eff.hp,hq,hsf,Bool.not_true,Bool.false_or,List.length_set];by_cases hm:j∈nc y.op (ev fr) hpp
       ·have hm2:j∈nc y.op (ev fr) (hpp.set j ob):=by
         by_cases hm2:j∈nc y.op (ev fr) (hpp.set j ob)
         ·exact hm2
         ·rw[callIds_set2 hm2]; exact hm
        have hf1:∀l:List Nat,j∈l→l.all (fun i=>Nat.blt i (U9 tt all base y))=false:=fun l hl=>by
         rw[List.all_eq_false];exact ⟨j,hl,by simpa using hbj⟩
        rw[hf1 _ hm,hf1 _ hm2];simp
       ·rw[Yg hm]
      ·rw[hA]at h; cases h
   ·rfl
   ·rfl
 unfold one;refine guard_of hl ?_ ?_
 ·simp only[eff];rw[hokS];cases hS:TE tt E base S all y (ev fr) hpp with
  | false=>rfl
  | true =>
  simp only[cond_true];unfold F4;simp only;split
  ·rw[opP_congr (L9 hl)];simp only[Yh]
  ·rename_i GQ;rw[drS_ne (by rw[GQ]; simp),opR_congr (L9 hl),opR_heap (h:=hpp)]
   ·simp only[Yh]
   ·intro i _ hi;unfold Eff.hp;split
    ·rfl
    ·rename_i j ob hj;obtain ⟨rfl,hA⟩:=hput _ _ hj;have:=hb (by simp[cf,hA]);simp[Pb]at hi;rw[cF _ (by omega)]
  ·rename_i GQ;rw[opA_congr (L9 hl)];simp only[Yh];congr 1;funext ob mk;congr 2;unfold Eff.hp;split
   ·rfl
   ·rename_i j ob' hj;obtain ⟨rfl,hA⟩:=hput _ _ hj;exact List.set_comm _ _ (hid (by simp[cf,hA]) (by simp[cf,GQ]))
  ·rename_i GQ;rw[lowD_congr (L9 hl)];cases hlow:lowD (drS tt S base y) y.op (ev fr) id with
   | false=>rfl
   | true =>
    simp only[Bool.not_true,cond_false];cases hq:e.put with
    | none =>
     rw[opW_congr (L9 hl)];simp only[Yh,Eff.hp,hq]
    | some jo =>
     obtain ⟨j,ob⟩:=jo;obtain ⟨rfl,hA⟩:=hput j ob hq;have hy:vG y.op=true∧S.map (·.1)≠some true∧id<j:=by
      rcases P1 with h|⟨h,h3,h2⟩|⟨h,_⟩|⟨h,_⟩|⟨h,_⟩|⟨_,_,h,_⟩|⟨h,_⟩
      ·rw[vK (by rw[hA]; simp),vK (by rw[GQ]; simp),hA,GQ]at h; cases h
      ·exact ⟨h,h3,h2 (by simp[cf,hA])⟩
      ·rw[hA]at h; cases h
      ·rw[hA]at h; cases h
      ·rw[hA]at h; cases h
      ·rw[vK (by rw[GQ]; simp),GQ]at h; cases h
      ·rw[hA]at h; cases h
     rw[opW_congr (L9 hl)];simp only[Yh,Eff.hp,hq];have hlow':K6 base y.op (ev fr) id=true:=by rw[drS_some hy.2.1]at hlow; exact hlow
     exact opW_set hy.1 hlow' hy.2.2
  ·rename_i GQ;rw[drS_ne (by rw[GQ]; simp)];split
   ·rename_i cl hcl';simp only[Yh];have hop:∀z∈cl.operands,ev (nF fr e.dst e.v) z=ev fr z:=fun z hz=>L9 hl z (by rw[hcl']; exact hz)
    have hargs:cl.args.toList.map (ev (nF fr e.dst e.v))=cl.args.toList.map (ev fr):=List.map_congr_left fun z hz=>hop z (by simp[Call.operands]; exact .inr (by simpa using hz))
    cases hpl:pP E y.op with
    | true =>
     have hfull:(Option.isNone (some base) || !true)=false:=rfl;rw[hcl']at hpl;rw[hfull];unfold EM;split
     ·rename_i f hf;rw[hop f (by simp[Call.operands,hf]),hargs];split
      ·split
       ·simp only[cond_false]
       ·rfl
       ·rfl
      ·rfl
     ·rfl
    | false =>
     have hF:dR tt E y.op = .F:=by unfold dR; rw[GQ]; simp[hpl]
     rw[callK_congr hop];cases hq:e.put with
     | none =>
      have hh2:∀h2,e.hp h2=h2:=fun h2=>by simp[Eff.hp,hq]
      simp only[hh2]
     | some jo =>
      obtain ⟨j,ob⟩:=jo;obtain ⟨rfl,hA⟩:=hput j ob hq;have hna:vG y.op=true→False:=fun ha=>by rw[Nt ha]at GQ; cases GQ
      rcases P1 with P1|⟨h,_⟩|⟨_,h⟩|⟨h,_⟩|⟨h,_⟩|⟨_,h2,_,hsf,hbj⟩|⟨h,_⟩
      ·rw[vK (by rw[hA]; simp),hF,hA]at P1;cases P1
      ·exact (hna h).elim
      ·exact (hna h).elim
      ·rw[hA]at h; cases h
      ·rw[hA]at h; cases h
      ·have hh2:∀h2,e.hp h2=h2.set j ob:=fun h2=>by simp[Eff.hp,hq]
       simp only[hh2];have hif:isF tt E y.op=true:=by unfold isF; rw[hF]
       match S,h2,hS with
       | some (true,A),_,hS =>
        simp only[TE,GQ,hif,hsf,Bool.not_true,Bool.false_or,Bool.and_eq_true,List.all_eq_true]at hS;have htj:=ht (by simp[cf,hA]);have h3:base+(all.filter (cf tt)).length≤hpp.length:=by simpa using hS.1.1
        rw[hcl']at hpl hsf;refine callK_set hpl hsf (fun hm => ?_) (by omega);have h4:=hS.1.2 j (by rw[hcl']; exact hm);simp at h4;omega
      ·rw[hA]at h; cases h
   ·rfl
  ·rfl
  ·rfl
 ·simp only[eff,Yh]
theorem callK_soft {E:Env R} (hE:EOk P E) {cl:Call} (hs:mQ E (.call cl)=true) {full:Bool} {fr:List V} {k k':V→aN→Option R} (he:∀v,k v h=k' v h) :
  EM tt E full cl (ev fr) h k=EM tt E full cl (ev fr) h k':=by
 unfold mQ at hs;simp only at hs;split at hs
 ·rename_i g hg;simp only[Bool.and_eq_true]at hs;obtain ⟨h1,h2⟩:=hs;split at h2
  ·rename_i sp hsp;unfold EM;simp only[hg,ev,hsp,h1];cases full
   ·rfl
   ·simp only[cond_true];exact (hE g _ sp hsp).2 rfl h1 _ _ _ _ he
  ·cases h2
 ·cases hs
theorem callK_back {E:Env R} {cl:Call} (hp:pP E (.call cl)=false) (hs:mQ E (.call cl)=false) {full:Bool} {fr:List V} {k k':V→aN→Option R}
  (he:∀v h',(∀i,i<h.length→i∉nc (.call cl) (ev fr) h→h'.at i=h.at i)→k v h'=k' v h') (h0:∀v,k v h=k' v h):EM tt E full cl (ev fr) h k=EM tt E full cl (ev fr) h k':=by
 unfold EM;split
 ·rename_i f hf;split
  ·rename_i g first cap hg
   simp only;split
   ·split
    ·congr 1;funext v h';cases h' with
     | nil=>exact h0 v
     | cons _ _=>rfl
    ·cases full
     ·rfl
     ·simp only[cond_true];unfold lendK;split
      ·congr 1;funext v h';cases h' with
       | nil=>simp only[h0]
       | cons _ _=>rfl
      ·rfl
   ·rename_i sp hsp;cases full
    ·rfl
    ·simp only[cond_true];cases hg0:pW.soft g with
     | true =>
      exfalso;cases f with
      | tmp t=>simp[pP,hf]at hp
      | func g' =>
       simp only[ev,V.func.injEq]at hg;obtain ⟨rfl,_,_⟩:=hg;simp[mQ,hf,hg0,hsp]at hs
      | const c=>exact Nv hg
      | global _=>simp[ev]at hg
     | false =>
      simp only[cond_false];congr 1;funext v h';refine he _ _ fun i hi hn => ?_
      unfold aN.back;simp only;rw[kL (by rw[fP]; exact hi)];refine Ns _ _ _ ?_;simpa only[nc,hf,hg]using hn
   ·rfl
  ·rfl
 ·rfl
theorem Xk {all:List Oper} {x:Oper} (h:s7 all x=true∨xy all x=true):∃t a y,x.op = .store t a y∧x.dst=none∧x.guard=none:=by
 rcases h with h|h
 ·unfold s7 at h;split at h
  ·rename_i ho;simp only[Bool.and_eq_true,Option.isNone_iff_eq_none]at h;exact ⟨_,_,_,ho,h.1.1,h.1.2⟩
  ·cases h
 ·unfold xy at h;split at h
  ·rename_i ho;simp only[Bool.and_eq_true,Option.isNone_iff_eq_none]at h;exact ⟨_,_,_,ho,h.1.1,h.1.2⟩
  ·cases h
theorem Nw {all:List Oper} {x:Oper} (h:viaS all x=true):∃t a y,x.op = .store t a y∧x.dst=none∧x.guard=none:=by
 unfold viaS at h;rw[Bool.or_eq_true]at h;rcases h with h|h
 ·exact Xk (.inl h)
 ·unfold viaMade at h;split at h
  ·rename_i ho;simp only[Bool.and_eq_true,Option.isNone_iff_eq_none]at h;exact ⟨_,_,_,ho,h.1.1,h.1.2⟩
  ·cases h
theorem R4 {all:List Oper} {x y:Oper} (h:farW all x y=true):(s7 all x=true∧xy all y=true)∨(xy all x=true∧s7 all y=true):=by
 simpa only[farW,Bool.or_eq_true,Bool.and_eq_true]using h
theorem Ma {all:List Oper} {x y:Oper} (h:farW all x y=true):fE tt x.op = .W∧fE tt y.op = .W:=by
 have h1:∀z,s7 all z=true∨xy all z=true→fE tt z.op = .W:=fun z hz=>by
  obtain ⟨t,a,y,e,_⟩:=Xk hz;rw[e]; rfl
 rcases R4 h with ⟨h2,h3⟩|⟨h2,h3⟩
 ·exact ⟨h1 _ (.inl h2),h1 _ (.inr h3)⟩
 ·exact ⟨h1 _ (.inr h2),h1 _ (.inl h3)⟩
theorem Yi (t:Nat) (a y:Operand) (ρ:Operand→V) (h:aN) (id:Nat) :
  (∀k:V→aN→Option R,opW tt (.store t a y) ρ h id k=none)∨∃i ob,i∈(ρ a).ids∧∀(h2:aN) (id2:Nat) (k:V→aN→Option R),h2.at i=h.at i→opW tt (.store t a y) ρ h2 id2 k=k .undef (h2.set i ob):=by
 simp only[opW];cases hvs:flatK (ρ y)with
 | none=>exact .inl fun k=>rfl
 | some vs =>
 simp only;by_cases hc:(tt.ok t&&decide (vs.length=(tt.at t).size))=true;rotate_left
 ·exact .inl fun k=>by rw[if_neg hc]
 simp only[hc,if_true];cases hx:ρ a with
 | ptr i o =>
  simp only;cases hi:h.at i with
  | cells cs =>
   by_cases hle:o+vs.length≤cs.length
   ·exact .inr ⟨i, .cells (GM cs o vs),by simp[V.ids],fun h2 id2 k e=>by simp only[e,hi,hle,if_true]⟩
   ·exact .inl fun k=>by simp only[hle,if_false]
  | mZ bv =>
   match o,vs with
   | 1, [v]=>exact .inr ⟨i, .mZ v,by simp[V.ids],fun h2 id2 k e=>by simp only[e,hi]⟩
   | 0,_=>exact .inl fun k=>rfl
   | 1, []=>exact .inl fun k=>rfl
   | 1,_::_::_=>exact .inl fun k=>rfl
   | _+2,_=>exact .inl fun k=>rfl
  | _=>exact .inl fun k=>rfl
 | yq i sz j o =>
  simp only;cases hi:h.at i with
  | row T l =>
   by_cases rV:sz=T.sz
   ·by_cases hle:o+vs.length≤(T.cells (l.getD j T.aR)).length
    ·cases hz:T.dec (GM (T.cells (l.getD j T.aR)) o vs)with
     | none=>exact .inl fun k=>by simp only[rV,hle,if_true,hz]
     | some z =>
      by_cases hj:j<l.length
      ·exact .inr ⟨i, .row T (l.set j z),by simp[V.ids],fun h2 id2 k e=>by simp only[e,hi,rV,hle,if_true,hz,bX,hj,decide_true,cond_true]⟩
      ·exact .inl fun k=>by simp only[rV,hle,if_true,hz,bX,hj,decide_false,cond_false]
    ·exact .inl fun k=>by simp only[rV,hle,if_true,if_false]
   ·exact .inl fun k=>by simp only[rV,if_false]
  | _=>exact .inl fun k=>rfl
 | _=>exact .inl fun k=>rfl
theorem store_nat {t:Nat} {a y:Operand} {ρ:Operand→V} {id:Nat} {k0:V→aN→Option R} {r:R} (hk:opW tt (.store t a y) ρ h id k0=some r) :
  ∃i ob,i∈(ρ a).ids∧k0 .undef (h.set i ob)=some r∧∀(h2:aN) (id2:Nat) (k:V→aN→Option R),h2.at i=h.at i→opW tt (.store t a y) ρ h2 id2 k=k .undef (h2.set i ob):=by
 rcases Yi (tt:=tt) (R:=R) t a y ρ h id with h1|⟨i,ob,h1,h2⟩
 ·rw[h1]at hk; cases hk
 ·rw[h2 h id k0 rfl]at hk;exact ⟨i,ob,h1,hk,h2⟩
theorem Xl {E:Env R} (hE:EOk P E) {S:Option (Bool×List Nat)} {base:Nat} {all:List Oper} {y:Oper} {id:Nat} {st:St} {k k':St→Option R} (hb:cf tt y=true→base≤id)
  (h:∀v hp',Kept S tt E all base y st.hp hp'→k ⟨nF st.fr y.dst v,hp'⟩=k' ⟨nF st.fr y.dst v,hp'⟩):one tt E S base all y id st k=one tt E S base all y id st k':=by
 have h0:∀v,k ⟨nF st.fr y.dst v,st.hp⟩=k' ⟨nF st.fr y.dst v,st.hp⟩:=fun v=>h v _ (.inl fun _ _=>rfl)
 obtain ⟨fr,hpp⟩:=st;unfold one;refine guard_of (fun _ _=>rfl) ?_ (h0 _);cases hS:TE tt E base S all y (ev fr) hpp with
 | false=>rfl
 | true =>
 simp only[cond_true];unfold F4;simp only at h h0 ⊢;split
 ·simp only[h0]
 ·simp only[h0]
 ·rename_i GQ;congr 1;funext ob mk;refine h _ _ (.inl fun i hi => ?_);have:=hb (by simp[cf,GQ]);rw[cF _ (by omega)]
 ·rename_i GQ;have hbi:=hb (by simp[cf,GQ]);cases hlow:lowD (drS tt S base y) y.op (ev fr) id with
  | false=>rfl
  | true =>
   simp only[Bool.not_true,cond_false];by_cases ha:vG y.op=true
   ·by_cases hst:S.map (·.1)=some true
    ·congr 1;funext v h';refine h v h' (.inr ⟨.inr ⟨hst,ha⟩,fun hF => ?_,fun hv => ?_⟩)
     ·rw[vK (by rw[GQ]; simp),GQ]at hF; cases hF
     ·obtain ⟨t,a,z,ey,_⟩:=Nw hv;rw[ey]at ha; cases ha
    have hlow':K6 base y.op (ev fr) id=true:=by rw[drS_some hst]at hlow; exact hlow
    exact opW_mono ha hbi hlow' fun v h' hrd=>h v h' (.inl fun i hi=>hrd i (by omega))
   ·have htu:turns tt E y.op := .inl ⟨by rw[vK (by rw[GQ]; simp),GQ],by simpa using ha⟩;have hnF:dR tt E y.op ≠ .F:=fun hF=>by rw[vK (by rw[GQ]; simp),GQ]at hF; cases hF
    by_cases hv:viaS all y=true
    ·obtain ⟨t,a,z,ey,_,_⟩:=Nw hv;rw[ey];rcases Yi (tt:=tt) (R:=R) t a z (ev fr) hpp id with h1|⟨i,ob,h1,h2⟩
     ·rw[h1,h1]
     ·rw[h2 hpp id _ rfl,h2 hpp id _ rfl];refine h _ _ (.inr ⟨.inl htu,fun hF=>(hnF hF).elim,fun _ A hA j hj => ?_⟩);subst hA;simp only[TE,GQ,hv,Bool.not_true,Bool.false_or,List.all_eq_true]at hS;have h3:=hS i (by rw[ey]; exact h1);rw[cF _ (by rintro rfl; exact hj (by simpa using h3))]
    ·congr 1;funext v h';exact h v h' (.inr ⟨.inl htu,fun hF=>(hnF hF).elim,fun hv2=>(hv hv2).elim⟩)
 ·rename_i GQ;rw[drS_ne (by rw[GQ]; simp)];split
  ·rename_i cl P1;cases hpl:pP E y.op with
   | true =>
    have hfull:(Option.isNone (some base) || !true)=false:=rfl;rw[hfull];unfold EM;split
    ·split
     ·split
      ·simp only;split
       ·congr 1;funext v h';cases h' with
        | nil=>exact h0 v
        | cons _ _=>rfl
       ·rfl
      ·rfl
      ·rfl
     ·rfl
    ·rfl
   | false =>
    have hF:dR tt E y.op = .F:=by unfold dR; rw[GQ]; simp[hpl]
    cases hs:mQ E y.op with
    | true=>exact callK_soft hE (by rw[←P1]; exact hs) fun v=>h0 v
    | false =>
     have htu:turns tt E y.op := .inr ⟨hF,hs⟩;refine callK_back (by rw[P1]at hpl; exact hpl) (by rw[P1]at hs; exact hs) (fun v h' hh=>h v h' (.inr ⟨.inl htu,fun _ A hA => ?_,fun hv => ?_⟩)) fun v=>h0 v
     rotate_left
     ·obtain ⟨t,a,z,ey,_⟩:=Nw hv;rw[ey]at P1; cases P1
     subst hA;have hif:isF tt E y.op=true:=by unfold isF; rw[hF]
     simp only[TE,GQ,hif,hs,Bool.not_true,Bool.false_or,List.all_eq_true,Bool.and_eq_true]at hS;intro i hi;have h1:=hS.2 i hi;rw[P1]at h1;rw[hh i (by simpa using h1.1) (by simpa using h1.2)]
  ·rfl
 ·rfl
 ·rfl
end
section
variable {P:Program} {tt:dn} {w w':World} {h h':aN} {c c':j8} {R:Type}
theorem wp_const {o:Oper} {a:Act} {G:Prop} (h:o.wp P a w (fun _ _=>G) (fun _ _ _=>G)):G:=by
 unfold Oper.wp at h;generalize (execOp a.eval o).run P w=r at h;cases r with
 | ok n w' =>
  cases n <;> simp only[Oper.upon]at h <;> try (first|exact h|exact h.elim)
  ·obtain ⟨e,w',fr,hR,_⟩:=h [];cases e with
   | returned v=>exact hR
   | panicked c=>exact hR
   | outgrown=>obtain ⟨_,_,g⟩:=hR; exact g
  ·obtain ⟨v,w',g,_⟩:=h (Frame.enter P 0 #[] .normal) [];exact g
 | halt x w'=>cases x <;> simp only[Oper.upon]at h <;> first|exact h|exact h.elim
theorem one_reach (T:CU P tt) {E:Env R} (hE:EOk P E) {S:Option (Bool×List Nat)} {base:Nat} {ops:Array Oper} {y:Oper} {id:Nat} {st:St} {a:Act} {k:St→Option R} {r:R} (hk:one tt E S base ops.toList y id st k=some r) (iS:TP w c st a)
  (hid:cf tt y=true→base≤id∧id<st.hp.length∧st.hp.at id = .free) :
  ∃w1 c1 Xj a1 v,TP w1 c1 Xj a1∧k Xj=some r∧Xj.fr=nF st.fr y.dst v∧Kept S tt E ops.toList base y st.hp Xj.hp∧yZ (cf tt y) id st.hp Xj.hp:=by
 classical
 obtain ⟨k',vH,hof⟩:∃k':St→Option R,one tt E S base ops.toList y id st k'=some r∧∀Xj,k' Xj=some r→k Xj=some r∧Kept S tt E ops.toList base y st.hp Xj.hp:=by
  refine ⟨fun Xj=>if Kept S tt E ops.toList base y st.hp Xj.hp then k Xj else none,?_,fun Xj e => ?_⟩
  ·rw[←hk];refine Xl hE (fun ha=>(hid ha).1) fun v hp' ht => ?_
   rw[if_pos ht]
  ·simp only at e;split at e
   ·exact ⟨e, ‹_›⟩
   ·cases e
 rcases Nu iS vH with ⟨_,hk⟩|⟨_,hk⟩
 ·have hk:F4 tt E (drS tt S base y) id y st k'=some r:=by
   cases hS:TE tt E base S ops.toList y (ev st.fr) st.hp with
   | true=>rw[hS]at hk; exact hk
   | false=>rw[hS]at hk; cases hk
  refine wp_const (P:=P) (o:=y) (a:=a) (w:=w) (Qa T hE hk iS (fun ha=>(hid ha).2) fun d w' yY c' v sim' x kp hf _ vH => ?_);exact ⟨w',c',yY,_,v,sim',(hof _ vH).1,hf,(hof _ vH).2,kp⟩
 ·exact ⟨w,c,⟨nF st.fr y.dst (.tuple []),st.hp⟩,a.put y.dst undef, .tuple [],⟨iS.wf,HI iS.fr _ Xi⟩,(hof _ hk).1,rfl, .inl fun _ _=>rfl, .refl _ _ _⟩
structure Good (tt:dn) (base:Nat) (all:List Oper) (rem:List B9) (h:aN):Prop where
 top:∀z∈rem,cf tt z.2.1=true→z.2.2<base+(all.filter (cf tt)).length
 cap:rem.Pairwise fun z z'=>cf tt z'.2.1=true→U9 tt all base z.2.1≤z'.2.2
 slot:∀z∈rem,cf tt z.2.1=true→base≤z.2.2∧z.2.2<h.length∧h.at z.2.2 = .free
 apart:rem.Pairwise fun z z'=>cf tt z.2.1=true→cf tt z'.2.1=true→z.2.2<z'.2.2
theorem Good.sub {base:Nat} {all:List Oper} {rem rem':List B9} (g:Good tt base all rem h) (hs:List.Sublist rem' rem):Good tt base all rem' h :=
 ⟨fun z hz=>g.top z (hs.subset hz),g.cap.sublist hs,fun z hz=>g.slot z (hs.subset hz),g.apart.sublist hs⟩
theorem Good.step {base:Nat} {all:List Oper} {x:B9} {pre post:List B9} (g:Good tt base all (pre++x::post) h) (kp:yZ (cf tt x.2.1) x.2.2 h h'):Good tt base all (pre++post) h':=by
 have hs:List.Sublist (pre++post) (pre++x::post):=List.Sublist.append (List.Sublist.refl _) (List.sublist_cons_self _ _);refine ⟨fun z hz=>g.top z (hs.subset hz),g.cap.sublist hs,fun z hz ha => ?_,g.apart.sublist hs⟩;obtain ⟨h1,h2,h3⟩:=g.slot z (hs.subset hz) ha;refine ⟨h1,Nat.lt_of_lt_of_le h2 kp.1,kp.2 _ (fun hx => ?_) h2 h3⟩;have hp:=g.apart;rw[List.pairwise_append,List.pairwise_cons]at hp;rcases List.mem_append.1 hz with hz|hz
 ·have:=hp.2.2 z hz x (by simp) ha hx; omega
 ·have:=hp.2.1.1 z hz hx ha; omega
theorem apart_symm {all:List Oper} {x y:Oper} (h2:EZ all x y=true):EZ all y x=true:=by
 obtain ⟨a1,a2,a3⟩:=apart_spec h2;simp only[EZ,Bool.and_eq_true];constructor
 ·cases hd:y.dst with
  | none=>rfl
  | some d =>
   have h3:=a3 d hd;have h4:x.dst≠some d:=fun e=>a2 d e hd
   simp[h3,h4]
 ·cases hd:x.dst with
  | none=>rfl
  | some d=>simp[a1 d hd]
theorem clsOk_symm {a b:Cls} (h:SR a b=true):SR b a=true:=by revert h; cases a <;> cases b <;> simp[SR]
theorem Il {E:Env R} {all:List Oper} {x y:Oper} (h:W5 tt E all x y=true):EZ all x y=true ∧
  (SR (dR tt E x.op) (dR tt E y.op)=true∨(vG x.op=true∧(dR tt E y.op = .A∨dR tt E y.op = .R))∨(dR tt E x.op = .R∧vG y.op=true)∨(mQ E x.op=true∧dR tt E y.op = .R)∨(dR tt E x.op = .R∧mQ E y.op=true)):=by
 simp only[W5,Bool.and_eq_true,Bool.or_eq_true,tokPair]at h;obtain ⟨h1,h2⟩:=h;refine ⟨h2,?_⟩;rcases h1 with h1|(⟨h1,h3⟩|⟨h1,h3⟩)|(⟨h1,h3⟩|⟨h1,h3⟩)
 ·exact .inl h1
 ·refine .inr (.inl ⟨h1,?_⟩)
  revert h3; cases dR tt E y.op <;> simp
 ·refine .inr (.inr (.inl ⟨?_,h3⟩))
  revert h1; cases dR tt E x.op <;> simp
 ·refine .inr (.inr (.inr (.inl ⟨h1,?_⟩)))
  revert h3; cases dR tt E y.op <;> simp
 ·refine .inr (.inr (.inr (.inr ⟨?_,h3⟩)))
  revert h1; cases dR tt E x.op <;> simp
theorem isF_spec {E:Env R} {o:Op} (h:isF tt E o=true):dR tt E o = .F:=by revert h; unfold isF; cases dR tt E o <;> simp
theorem far_spec {E:Env R} {all:List Oper} {x:Oper} (h:farR tt E all x=true):dR tt E x.op = .R:=by
 simp only[farR,Bool.and_eq_true]at h
 revert h
 cases dR tt E x.op <;> simp
theorem far2_spec {E:Env R} {all:List Oper} {x:Oper} (h:farR2 tt E all x=true):dR tt E x.op = .R:=by
 simp only[farR2,Bool.and_eq_true]at h
 revert h
 cases dR tt E x.op <;> simp
theorem uZ {E:Env R} {far:Option Bool} {all:List Oper} {x y:Oper} (h:Pc tt E far all x y=true):EZ all x y=true∧((W5 tt E all x y=true∧(far=some true→noApp tt E x y=true))∨(far=some true ∧
  ((farR tt E all x=true∧dR tt E x.op = .R∧dR tt E y.op = .F)∨(dR tt E x.op = .F∧mQ E x.op=false∧fE tt y.op = .A)∨farW all x y=true∨(dR tt E x.op = .F∧farR tt E all y=true∧dR tt E y.op = .R)))∨(far=some false∧farR2 tt E all x=true∧dR tt E x.op = .R∧viaS all y=true)):=by
 unfold Pc at h;simp only[Bool.or_eq_true,Bool.and_eq_true]at h;rcases h with ⟨h,hn⟩|h
 ·exact ⟨(Il h).1, .inl ⟨h,fun e=>by subst e; exact hn⟩⟩
 ·split at h
  ·cases h
  ·simp only[Bool.or_eq_true,Bool.and_eq_true]at h;rcases h with ⟨((⟨h2,h3⟩|⟨h2,h3,h5⟩)|h2)|⟨h2,h3⟩,h4⟩
   ·exact ⟨h4, .inr (.inl ⟨rfl, .inl ⟨h2,far_spec h2,isF_spec h3⟩⟩)⟩
   ·refine ⟨h4, .inr (.inl ⟨rfl, .inr (.inl ⟨isF_spec h2,by simpa using h3,?_⟩)⟩)⟩
    revert h5
    cases fE tt y.op <;> simp
   ·exact ⟨h4, .inr (.inl ⟨rfl, .inr (.inr (.inl h2))⟩)⟩
   ·exact ⟨h4, .inr (.inl ⟨rfl, .inr (.inr (.inr ⟨isF_spec h2,h3,far_spec h3⟩))⟩)⟩
  ·simp only[Bool.and_eq_true]at h;exact ⟨h.2, .inr (.inr ⟨rfl,h.1.1,far2_spec h.1.1,h.1.2⟩)⟩
theorem viaS_cls {all:List Oper} {x:Oper} (h:viaS all x=true):fE tt x.op = .W:=by
 obtain ⟨t,a,y,e,_⟩:=Nw h;rw[e]; rfl
theorem store_one {E:Env R} {S:Option (Bool×List Nat)} {base:Nat} {all:List Oper} {x:Oper} {id:Nat} {fr:List V} {k0:St→Option R} {r:R} (hx:s7 all x=true∨xy all x=true) (hk:one tt E S base all x id ⟨fr,h⟩ k0=some r) :
  TE tt E base S all x (ev fr) h=true∧∃i ob,i∈Iy x.op (ev fr)∧k0 ⟨fr,h.set i ob⟩=some r∧∀(h2:aN) (id2:Nat) (k:St→Option R),h2.at i=h.at i→one tt E S base all x id2 ⟨fr,h2⟩ k=k ⟨fr,h2.set i ob⟩:=by
 obtain ⟨t,a,y,e,hd,hg⟩:=Xk hx;obtain ⟨dst,op,ty,pos,after,guard⟩:=x;simp only at e hd hg;subst e hd hg;unfold one at hk ⊢;rw[Ik]at hk;simp only at hk;have hS:TE tt E base S all ⟨none, .store t a y,ty,pos,after,none⟩ (ev fr) h=true:=by
  cases hS:TE tt E base S all ⟨none, .store t a y,ty,pos,after,none⟩ (ev fr) h with
  | true=>rfl
  | false=>rw[hS]at hk; cases hk
 refine ⟨hS,?_⟩;have hst:∀(dr:Option Nat) (id:Nat) (h:aN) (k:St→Option R),F4 tt E dr id ⟨none, .store t a y,ty,pos,after,none⟩ ⟨fr,h⟩ k=opW tt (.store t a y) (ev fr) h id fun v h=>k ⟨nF fr none v,h⟩:=fun dr id h k=>by cases dr <;> rfl
 rw[hS,cond_true,hst]at hk;obtain ⟨i,ob,h1,h2,h3⟩:=store_nat (tt:=tt) (t:=t) (a:=a) (y:=y) (ρ:=ev fr) (id:=id) (k0:=fun v h=>k0 ⟨nF fr none v,h⟩) hk;refine ⟨i,ob,h1,h2,fun hh id2 k e => ?_⟩;rw[Ik];simp only;have hS2:TE tt E base S all ⟨none, .store t a y,ty,pos,after,none⟩ (ev fr) hh=true:=by
  rw[←hS]
  match S with
  | none=>rfl
  | some (true,A)=>rfl
  | some (false,A)=>rfl
 rw[hS2,cond_true,hst];exact h3 hh id2 (fun v h=>k ⟨nF fr none v,h⟩) e
theorem soft_cls {E:Env R} {o:Op} (hs:mQ E o=true):fE tt o = .C:=by
 unfold mQ at hs;split at hs
 ·split at hs
  ·rename_i cl _ g hg;simp only[fE,hg]
  ·cases hs
 ·cases hs
theorem soft_in {E:Env R} {o:Op} (hs:mQ E o=true):dR tt E o = .F:=by
 have hc:=soft_cls (tt:=tt) hs;have hp:pP E o=false:=by
  unfold mQ at hs;unfold pP;split at hs
  ·split at hs
   ·rename_i cl _ g hg;simp only[Bool.and_eq_true]at hs;obtain ⟨_,h2⟩:=hs;split at h2
    ·rename_i sp hsp;simp only[hg,hsp]
    ·cases h2
   ·cases hs
  ·cases hs
 unfold dR;rw[hc,hp];rfl
theorem app_in {E:Env R} {o:Op} (ha:vG o=true):dR tt E o = .W:=by rw[vK (by rw[Nt ha]; simp),Nt ha]
theorem Xm {E:Env R} {o:Op} {a:Cls} (h:dR tt E o=a) (h1:a ≠ .C) (h2:a ≠ .F):fE tt o=a:=by
 unfold dR at h;split at h
 ·revert h; cases pP E o <;> intro h <;> subst h <;> simp at h1 h2
 ·exact h
theorem turns_not {E:Env R} {all:List Oper} {x y:Oper} (h:W5 tt E all x y=true∨W5 tt E all y x=true) (hR:fE tt x.op = .R):¬turns tt E y.op:=by
 have hx:dR tt E x.op = .R:=by rw[vK (by rw[hR]; simp),hR]
 intro ht;have hna:vG y.op=true→False:=fun ha=>by
  rcases ht with ⟨_,h⟩|⟨h,_⟩
  ·rw[ha]at h; cases h
  ·rw[app_in ha]at h; cases h
 have TS:mQ E y.op=true→False:=fun hs=>by
  rcases ht with ⟨h,_⟩|⟨_,h⟩
  ·rw[soft_in hs]at h; cases h
  ·rw[hs]at h; cases h
 have hc:SR .R (dR tt E y.op)=false:=by rcases ht with ⟨h,_⟩|⟨h,_⟩ <;> rw[h] <;> rfl
 rcases h with h|h
 ·rcases (Il h).2 with h|⟨h,_⟩|⟨_,h⟩|⟨h,_⟩|⟨_,h⟩
  ·rw[hx,hc]at h; cases h
  ·rw[app_in h]at hx; cases hx
  ·exact hna h
  ·rw[soft_in h]at hx; cases hx
  ·exact TS h
 ·rcases (Il h).2 with h|⟨h,_⟩|⟨h,h'⟩|⟨h,_⟩|⟨_,h⟩
  ·have:=clsOk_symm h; rw[hx,hc]at this; cases this
  ·exact hna h
  ·rw[app_in h']at hx; cases hx
  ·exact TS h
  ·rw[soft_in h]at hx; cases hx
theorem Kh.symm {S:Option (Bool×List Nat)} {E:Env R} {all:List Oper} {base:Nat} {x:Oper} {s t:St} (h:Kh S E all tt base x s t):Kh S E all tt base x t s:=⟨fun u hu=>(h.1 u hu).symm,fun hR i hi hA hB=>(h.2 hR i hi hA hB).symm⟩
theorem Kh.trans {S:Option (Bool×List Nat)} {E:Env R} {all:List Oper} {base:Nat} {x:Oper} {s t u:St} (h:Kh S E all tt base x s t) (h':Kh S E all tt base x t u):Kh S E all tt base x s u :=
 ⟨fun v hv=>(h'.1 v hv).trans (h.1 v hv),fun hR i hi hA hB=>(h'.2 hR i hi hA hB).trans (h.2 hR i hi hA hB)⟩
theorem Nx {E:Env R} {S:Option (Bool×List Nat)} {all:List Oper} {base:Nat} {x y:Oper} (hp:Pc tt E (S.map (·.1)) all x y=true∨Pc tt E (S.map (·.1)) all y x=true) {st Xj:St} {v:V} (hf:Xj.fr=nF st.fr y.dst v) (hh:Kept S tt E all base y st.hp Xj.hp) :
  Kh S E all tt base x st Xj:=by
 have h2:EZ all y x=true:=by
  rcases hp with h|h
  ·exact apart_symm (uZ h).1
  ·exact (uZ h).1
 refine ⟨fun t ht => ?_,fun hR i hi hA hB => ?_⟩
 ·rw[hf];exact putF_getD fun e=>(apart_spec h2).1 t e ht
 ·rcases hh with hh|⟨hW,hh,hh2⟩
  ·exact hh i hi
  ·have hx:dR tt E x.op = .R:=by rw[vK (by rw[hR]; simp),hR]
   rcases hp with h|h
   ·rcases (uZ h).2 with ⟨h,hn⟩|⟨h1,⟨h3,_,h4⟩|⟨h4,_⟩|h4|⟨h4,_⟩⟩|⟨h1,h3,_,h4⟩
    ·rcases hW with hW|⟨hst,ha⟩
     ·exact (turns_not (.inl h) hR hW).elim
     ·have:=hn hst;simp[noApp,rdA,hx,ha]at this
    ·match S,h1 with
     | some (true,A),_=>exact hh h4 A rfl i (hA A rfl h3)
    ·rw[hx]at h4; cases h4
    ·rw[(Ma (tt:=tt) h4).1]at hR; cases hR
    ·rw[hx]at h4; cases h4
    ·match S,h1 with
     | some (false,A),_=>exact hh2 h4 A rfl i (hB A rfl h3)
   ·rcases (uZ h).2 with ⟨h,hn⟩|⟨h1,⟨_,_,h4⟩|⟨_,_,h4⟩|h4|⟨h4,h3,_⟩⟩|⟨_,_,_,h4⟩
    ·rcases hW with hW|⟨hst,ha⟩
     ·exact (turns_not (.inr h) hR hW).elim
     ·have:=hn hst;simp[noApp,rdA,hx,ha]at this
    ·rw[hx]at h4; cases h4
    ·rw[hR]at h4; cases h4
    ·rw[(Ma (tt:=tt) h4).2]at hR; cases hR
    ·match S,h1 with
     | some (true,A),_=>exact hh h4 A rfl i (hA A rfl h3)
    ·rw[viaS_cls (tt:=tt) h4]at hR; cases hR
section
variable {E:Env R} {S:Option (Bool×List Nat)} {base:Nat} {ops:Array Oper} {k:St→Option R} {r:R}
theorem pull (hE:EOk P E) {x:B9} {e:Eff} {st0:St} (hc:calm (fE tt x.2.1.op)=true) (he:e.dst=x.2.1.dst) (hput:∀i ob,e.put=some (i,ob)→i=x.2.2∧fE tt x.2.1.op = .A)
  (hnat:∀JI,Kh S E ops.toList tt base x.2.1 st0 JI→∀k,one tt E S base ops.toList x.2.1 x.2.2 JI k=k (eff JI e)) (post:List B9) :
  ∀(pre:List B9) (st:St) (h:aN),Good tt base ops.toList (pre++x::post) h→(∀y∈pre,Pc tt E (S.map (·.1)) ops.toList y.2.1 x.2.1=true)→Kh S E ops.toList tt base x.2.1 st0 st →
   PD tt E S base ops.toList (pre++x::post) st k=PD tt E S base ops.toList (pre++post) (eff st e) k
 | [],st,_,_,_,ha=>hnat st ha _
 | y::pre,st,h,g,hp,ha=>by
  have hpy:=hp y (by simp);have gx:cf tt x.2.1=true→base≤x.2.2:=fun hx=>(g.slot x (by simp) hx).1
  have gy:cf tt y.2.1=true→base≤y.2.2:=fun hx=>(g.slot y (by simp) hx).1
  have glt:cf tt x.2.1=true→cf tt y.2.1=true→y.2.2<x.2.2:=fun hx hy=>by
   have:=g.apart;rw[List.cons_append,List.pairwise_cons]at this;exact this.1 x (by simp) hy hx
  have gne:cf tt x.2.1=true→cf tt y.2.1=true→x.2.2≠y.2.2:=fun hx hy=>by have:=glt hx hy; omega
  have P1:SR (dR tt E x.2.1.op) (dR tt E y.2.1.op)=true∨(vG y.2.1.op=true∧S.map (·.1)≠some true∧(cf tt x.2.1=true→y.2.2<x.2.2))∨(fE tt x.2.1.op = .R∧vG y.2.1.op=true)∨(fE tt x.2.1.op = .R∧mQ E y.2.1.op=true)∨(fE tt x.2.1.op = .R∧dR tt E y.2.1.op = .F)∨(fE tt x.2.1.op = .A∧S.map (·.1)=some true∧dR tt E y.2.1.op = .F∧mQ E y.2.1.op=false∧U9 tt ops.toList base y.2.1≤x.2.2)∨(fE tt x.2.1.op = .R∧fE tt y.2.1.op = .W):=by
   rcases (uZ hpy).2 with ⟨hpo,hna⟩|⟨hSo,⟨_,_,hF⟩|⟨hF,hsf,hA⟩|hW|⟨hF,_,hR⟩⟩|⟨_,_,_,hW⟩;rotate_left;rotate_left
   ·have jd:U9 tt ops.toList base y.2.1≤x.2.2:=by
     have:=g.cap;rw[List.cons_append,List.pairwise_cons]at this;exact this.1 x (by simp) (by simp[cf,hA])
    exact .inr (.inr (.inr (.inr (.inr (.inl ⟨hA,hSo,hF,hsf,jd⟩)))))
   ·rw[(Ma (tt:=tt) hW).2]at hc; cases hc
   ·exact .inr (.inr (.inr (.inr (.inl ⟨Xm hR (by simp) (by simp),hF⟩))))
   ·rw[viaS_cls (tt:=tt) hW]at hc; cases hc
   rotate_left
   ·have hC:fE tt x.2.1.op = .C:=by
     unfold dR at hF;split at hF
     ·assumption
     ·rw[hF]at hc; cases hc
    rw[hC]at hc; cases hc
   rcases (Il hpo).2 with h|⟨h,h'⟩|⟨_,h⟩|⟨h,h'⟩|⟨_,h⟩
   ·exact .inl (clsOk_symm h)
   ·refine .inr (.inl ⟨h,fun hst => ?_,fun hx=>glt hx (by simp[cf,Nt h])⟩);have:=hna hst;rcases h' with h'|h' <;> simp[noApp,rdA,h,h']at this
   ·rw[Nt h]at hc; cases hc
   ·exact .inr (.inr (.inr (.inl ⟨Xm h' (by simp) (by simp),h⟩)))
   ·rw[soft_cls h]at hc; cases hc
  simp only[List.cons_append,PD];rw[one_eff P1 (apart_symm (uZ hpy).1) hc he hput gne gx fun hx=>g.top x (by simp) hx];refine Xl hE gy fun v hp' hh => ?_
  exact pull hE hc he hput hnat post pre _ h (g.sub (List.sublist_cons_self _ _)) (fun z hz=>hp z (by simp[hz])) (ha.trans (Nx (.inr hpy) rfl hh))
theorem find (T:CU P tt) (hE:EOk P E) {x:B9} (post:List B9):∀(pre:List B9) (w:World) (c:j8) (st:St) (a:Act),TP w c st a→Good tt base ops.toList (pre++x::post) st.hp→(∀y∈pre,Pc tt E (S.map (·.1)) ops.toList y.2.1 x.2.1=true) →
  PD tt E S base ops.toList (pre++x::post) st k=some r→∃yY k',Kh S E ops.toList tt base x.2.1 st yY∧one tt E S base ops.toList x.2.1 x.2.2 yY k'=some r
 | [],_,_,st,_,_,_,_,hk=>⟨st,_,⟨fun _ _=>rfl,fun _ _ _ _ _=>rfl⟩,hk⟩
 | y::pre,w,c,st,a,iS,g,hp,hk=>by
  simp only[List.cons_append,PD]at hk;obtain ⟨w1,c1,Xj,a1,v,s1,hk1,hf,hh,kp⟩:=one_reach T hE hk iS (fun ha=>g.slot y (by simp) ha);obtain ⟨yY,k',h1,h2⟩:=find T hE post pre w1 c1 Xj a1 s1 (Good.step (pre := []) g kp) (fun z hz=>hp z (by simp[hz])) hk1;exact ⟨yY,k',(Nx (.inr (hp y (by simp))) hf hh).trans h1,h2⟩
theorem pullW (hE:EOk P E) {x:B9} (post:List B9):∀(pre:List B9) (st:St) (h:aN),Good tt base ops.toList (pre++x::post) h→(∀y∈pre,Pc tt E (S.map (·.1)) ops.toList y.2.1 x.2.1=true∧(calm (fE tt y.2.1.op)=true∨(S.map (·.1)=some true∧farW ops.toList y.2.1 x.2.1=true))) →
  PD tt E S base ops.toList (pre++x::post) st k=some r→one tt E S base ops.toList x.2.1 x.2.2 st (fun Xj=>PD tt E S base ops.toList (pre++post) Xj k)=some r
 | [],_,_,_,_,hk=>hk
 | y::pre,st,h,g,hp,hk=>by
  obtain ⟨hpy,GQ⟩:=hp y (by simp);simp only[List.cons_append,PD]at hk ⊢;rcases GQ with GQ|⟨hSo,hW⟩;rotate_left
  ·have hvy:s7 ops.toList y.2.1=true∨xy ops.toList y.2.1=true:=(R4 hW).imp (·.1) (·.1);have hvx:s7 ops.toList x.2.1=true∨xy ops.toList x.2.1=true:=((R4 hW).imp (·.2) (·.2)).symm;obtain ⟨fr,hp0⟩:=st;obtain ⟨sy,i,ob,iy,hk1,ny⟩:=store_one hvy hk;have ih:=pullW hE post pre _ h (g.sub (List.sublist_cons_self _ _)) (fun z hz=>hp z (by simp[hz])) hk1;obtain ⟨sx,j,ob',ix,RZ,nx⟩:=store_one hvx ih;have jW:i≠j:=by
    match S,hSo,sy,sx with
    | some (true,A),_,sy,sx =>
     simp only[TE,(Ma (tt:=tt) hW).1,Bool.and_eq_true,Bool.or_eq_true,Bool.not_eq_true',List.all_eq_true]at sy;simp only[TE,(Ma (tt:=tt) hW).2,Bool.and_eq_true,Bool.or_eq_true,Bool.not_eq_true',List.all_eq_true]at sx
     rintro rfl
     rcases R4 hW with ⟨g1,g2⟩|⟨g1,g2⟩
     ·have a1:=sy.1.resolve_left (by simp[g1]) i iy;have a2:=sx.2.resolve_left (by simp[g2]) i ix;rw[a1]at a2; cases a2
     ·have a1:=sy.2.resolve_left (by simp[g1]) i iy;have a2:=sx.1.resolve_left (by simp[g2]) i ix;rw[a2]at a1; cases a1
   rw[nx hp0 _ _ (cF _ jW).symm,ny (hp0.set j ob') _ _ (cF _ (Ne.symm jW)),←List.set_comm _ _ jW];exact RZ
  obtain ⟨e,h1,h2,h3,h4⟩:=one_nat GQ hk;have gx:cf tt x.2.1=true→base≤x.2.2:=fun hx=>(g.slot x (by simp) hx).1
  have gy:cf tt y.2.1=true→base≤y.2.2:=fun hx=>(g.slot y (by simp) hx).1
  have gne:cf tt y.2.1=true→cf tt x.2.1=true→y.2.2≠x.2.2:=fun hy hx=>by
   have:=g.apart;rw[List.cons_append,List.pairwise_cons]at this;exact Nat.ne_of_lt (this.1 x (by simp) hy hx)
  have P1:SR (dR tt E y.2.1.op) (dR tt E x.2.1.op)=true∨(vG x.2.1.op=true∧S.map (·.1)≠some true∧(cf tt y.2.1=true→x.2.2<y.2.2))∨(fE tt y.2.1.op = .R∧vG x.2.1.op=true)∨(fE tt y.2.1.op = .R∧mQ E x.2.1.op=true)∨(fE tt y.2.1.op = .R∧dR tt E x.2.1.op = .F)∨(fE tt y.2.1.op = .A∧S.map (·.1)=some true∧dR tt E x.2.1.op = .F∧mQ E x.2.1.op=false∧U9 tt ops.toList base x.2.1≤y.2.2)∨(fE tt y.2.1.op = .R∧fE tt x.2.1.op = .W):=by
   rcases (uZ hpy).2 with ⟨hpo,_⟩|⟨_,⟨_,hR,hF⟩|⟨hF,_⟩|hW|⟨hF,_⟩⟩|⟨_,_,hR,hW⟩;rotate_left
   ·exact .inr (.inr (.inr (.inr (.inl ⟨Xm hR (by simp) (by simp),hF⟩))))
   ·have hC:fE tt y.2.1.op = .C:=by
     unfold dR at hF;split at hF
     ·assumption
     ·rw[hF]at GQ; cases GQ
    rw[hC]at GQ; cases GQ
   ·rw[(Ma (tt:=tt) hW).1]at GQ; cases GQ
   ·have hC:fE tt y.2.1.op = .C:=by
     unfold dR at hF;split at hF
     ·assumption
     ·rw[hF]at GQ; cases GQ
    rw[hC]at GQ; cases GQ
   ·exact .inr (.inr (.inr (.inr (.inr (.inr ⟨Xm hR (by simp) (by simp),viaS_cls hW⟩)))))
   rcases (Il hpo).2 with h|⟨h,_⟩|⟨h,h'⟩|⟨h,_⟩|⟨h,h'⟩
   ·exact .inl h
   ·rw[Nt h]at GQ; cases GQ
   ·exact .inr (.inr (.inl ⟨Xm h (by simp) (by simp),h'⟩))
   ·rw[soft_cls h]at GQ; cases GQ
   ·exact .inr (.inr (.inr (.inl ⟨Xm h (by simp) (by simp),h'⟩)))
  have ih:=pullW hE post pre (eff st e) h (g.sub (List.sublist_cons_self _ _)) (fun z hz=>hp z (by simp[hz])) h3;rw[one_eff P1 (uZ hpy).1 GQ h1 h2 gne gy fun hy=>g.top y (by simp) hy]at ih;rw[←ih];refine Xl hE gx fun v hp' hh => ?_
  exact h4 _ (Nx (.inl hpy) rfl hh) _
theorem bubble (T:CU P tt) (hE:EOk P E) {x:B9} {pre post:List B9} {st:St} {a:Act} (iS:TP w c st a) (g:Good tt base ops.toList (pre++x::post) st.hp) (hp:∀y∈pre,Pc tt E (S.map (·.1)) ops.toList y.2.1 x.2.1=true)
  (hk:PD tt E S base ops.toList (pre++x::post) st k=some r):one tt E S base ops.toList x.2.1 x.2.2 st (fun Xj=>PD tt E S base ops.toList (pre++post) Xj k)=some r:=by
 by_cases hc:calm (fE tt x.2.1.op)=true
 ·obtain ⟨yY,k',h1,h2⟩:=find T hE post pre w c st a iS g hp hk;obtain ⟨e,e1,e2,_,e4⟩:=one_nat hc h2;rw[e4 st h1.symm,←pull hE hc e1 e2 e4 post pre st _ g hp h1.symm];exact hk
 ·refine pullW hE post pre st _ g (fun y hy=>⟨hp y hy,?_⟩) hk;have h0:=(uZ (hp y hy)).2;by_cases hfw:S.map (·.1)=some true∧farW ops.toList y.2.1 x.2.1=true
  ·exact .inr hfw
  refine .inl ?_;have hy:dR tt E y.2.1.op = .P∨dR tt E y.2.1.op = .R∨dR tt E y.2.1.op = .A:=by
   have hx:¬calm (dR tt E x.2.1.op)=true:=by
    unfold dR;split
    ·cases pP E x.2.1.op <;> simp[calm]
    ·exact hc
   rcases h0 with ⟨h0,_⟩|⟨hSo,⟨_,h0,_⟩|⟨_,_,h0⟩|h0|⟨_,_,h0⟩⟩|⟨_,_,h0,_⟩;rotate_left
   ·exact .inr (.inl h0)
   ·exact (hc (by rw[h0]; rfl)).elim
   ·exact (hfw ⟨hSo,h0⟩).elim
   ·exact (hx (by rw[h0]; rfl)).elim
   ·exact .inr (.inl h0)
   have h1:=(Il h0).2;rcases h1 with h1|⟨_,h1⟩|⟨h1,_⟩|⟨_,h1⟩|⟨h1,_⟩
   ·revert h1 hx
    cases dR tt E x.2.1.op <;> cases dR tt E y.2.1.op <;> simp[SR,calm]
   ·exact (hx (by rcases h1 with h|h <;> rw[h] <;> rfl)).elim
   ·exact .inr (.inl h1)
   ·exact (hx (by rw[h1]; rfl)).elim
   ·exact .inr (.inl h1)
  have jW:fE tt y.2.1.op ≠ .C:=fun e=>by
   unfold dR at hy;rw[e]at hy;cases hp2:pP E y.2.1.op <;> simp[hp2]at hy
  rw[vK jW]at hy;rcases hy with h|h|h <;> rw[h] <;> rfl
end
theorem Bu:∀(l:List Oper) (i id:Nat) (x:B9),x∈number tt l i id→i≤x.1∧x.1<i+l.length∧l[x.1 - i]? = some x.2.1∧id≤x.2.2∧(cf tt x.2.1=true→x.2.2<id+(l.filter (cf tt)).length)
 | [],_,_,_,h=>by simp[number]at h
 | o::l,i,id,x,h=>by
  simp only[number,List.mem_cons]at h;rcases h with rfl|h
  ·refine ⟨Nat.le_refl _,by simp,by simp,Nat.le_refl _,fun ha => ?_⟩;simp only at ha;simp only[List.filter_cons_of_pos ha,List.length_cons];omega
  ·obtain ⟨h1,h2,h3,h4,h5⟩:=Bu l _ _ x h;have e:x.1 - i=(x.1 - (i+1))+1:=by omega
   refine ⟨by omega,by simp; omega,by rw[e]; simpa using h3,?_,fun ha => ?_⟩
   ·split at h4 <;> omega
   ·have:=h5 ha;by_cases ho:cf tt o=true
    ·rw[if_pos ho]at this;rw[List.filter_cons_of_pos ho,List.length_cons]; omega
    ·rw[if_neg ho]at this;rw[List.filter_cons_of_neg ho]; omega
theorem Ny:∀(l:List Oper) (i id:Nat),(number tt l i id).Pairwise fun z z'=>z.1<z'.1∧(cf tt z.2.1=true→cf tt z'.2.1=true→z.2.2<z'.2.2)
 | [],_,_=>by simp[number]
 | o::l,i,id=>by
  simp only[number,List.pairwise_cons];refine ⟨fun z hz => ?_,Ny l _ _⟩;obtain ⟨h1,_,_,h4,_⟩:=Bu l _ _ z hz;refine ⟨by omega,fun ha _ => ?_⟩;rw[if_pos ha]at h4;omega
theorem cap_le {f p:Oper→Bool} {o:Oper} {l:List Oper} (h:p o=false):∀pre:List Oper,(((pre++o::l).takeWhile p).filter f).length≤(pre.filter f).length
 | []=>by simp[h]
 | z::pre=>by
  rw[List.cons_append,List.takeWhile_cons];cases p z with
  | false=>simp
  | true =>
   have:=cap_le h pre (f:=f) (p:=p) (o:=o) (l:=l);simp only[if_true,List.filter_cons];cases f z
   ·simpa using this
   ·simpa using this
theorem Yj {all:List Oper} {base:Nat}:∀(l pre:List Oper) (i id:Nat),all=pre++l→id=base+(pre.filter (cf tt)).length→(number tt l i id).Pairwise fun z z'=>cf tt z'.2.1=true→U9 tt all base z.2.1≤z'.2.2
 | [],_,_,_,_,_=>by simp[number]
 | o::l,pre,i,id,ha,hi=>by
  simp only[number,List.pairwise_cons];refine ⟨fun z hz _ => ?_,Yj l (pre ++ [o]) _ _ (by simp[ha]) ?_⟩
  ·have h4:=(Bu l _ _ z hz).2.2.2.1;have:=cap_le (f:=cf tt) (p:=fun z=>z.dst != o.dst) (o:=o) (l:=l) (by simp) pre;unfold U9;rw[ha];split at h4 <;> omega
  ·rw[List.filter_append,List.length_append,hi];by_cases ho:cf tt o=true
   ·rw[if_pos ho]; simp[ho]; omega
   ·rw[if_neg ho]; simp[ho]
theorem number_all:∀(l:List Oper) (i id j:Nat),i≤j→j<i+l.length→∃x∈number tt l i id,x.1=j
 | [],i,_,j,h1,h2=>by simp at h2; omega
 | o::l,i,id,j,h1,h2=>by
  by_cases e:i=j
  ·exact ⟨(i,o,id),by simp[number],e⟩
  ·obtain ⟨x,hx,ex⟩:=number_all l (i+1) (if cf tt o then id+1 else id) j (by omega) (by simp at h2; omega);exact ⟨x,by simp[number,hx],ex⟩
structure Left (ops:Array Oper) (b:List (List Nat)) (listed:Array Bool) (rem:List B9):Prop where
 size:listed.size=ops.size
 sorted:rem.Pairwise fun z z'=>z.1<z'.1
 op:∀x∈rem,ops[x.1]? = some x.2.1
 un:∀x∈rem,listed.getD x.1 true=false
 all:∀i,listed.getD i true=false→∃x∈rem,x.1=i
 closed:∀m,listed.getD m false=true→∀i∈b.getD m [],listed.getD i false=true
theorem listed_iff {listed:Array Bool} {i:Nat} (h:i<listed.size):listed.getD i false=true↔¬listed.getD i true=false:=by
 simp[h]
theorem any_sound (T:CU P tt) {E:Env R} (hE:EOk P E) {S:Option (Bool×List Nat)} {base:Nat} {ops:Array Oper} {b:List (List Nat)} {k:St→Option R} {r:R} {Q:Exit→Act→World→Prop}
  (hpair:∀i j x y,i<j→ops[i]? = some x→ops[j]? = some y→i∈b.getD j []∨Pc tt E (S.map (·.1)) ops.toList x y=true)
  (hback:∀(j:Nat) (y:Oper),ops[j]? = some y→∀e∈y.after,Region.binds .any e=true→e.on<j)
  (hclo:∀(j:Nat) (y:Oper),ops[j]? = some y→∀i∈b.getD j [],∃e∈y.after,Region.binds .any e=true∧(e.on=i∨i∈b.getD e.on [])) :
  ∀(fuel:Nat) (listed:Array Bool) (rem:List B9) (w:World) (c:j8) (st:St) (a:Act),rem.length≤fuel→Left ops b listed rem→Good tt base ops.toList rem st.hp→TP w c st a→PD tt E S base ops.toList rem st k=some r →
   Goes w c st a k r (Q .normal)→wpAny P .any ops Q fuel listed a w:=by
 intro fuel
 
 have hnone:∀listed rem,Left ops b listed rem→Region.ready .any ops listed = []→rem = []:=by
  intro listed rem lf hr;cases rem with
  | nil=>rfl
  | cons x rest =>
   have:x.1∈Region.ready .any ops listed:=by
    rw[mem_ready];refine ⟨lf.un x (by simp),x.2.1,lf.op x (by simp),fun e he hb => ?_⟩;have jz:=hback x.1 x.2.1 (lf.op x (by simp)) e he hb;have hx:x.1<ops.size:=(Array.getElem?_eq_some_iff.1 (lf.op x (by simp))).1;rw[listed_iff (by rw[lf.size]; omega)];intro hun;obtain ⟨y,hy,ey⟩:=lf.all _ hun;rcases List.mem_cons.1 hy with rfl|hy
    ·omega
    ·have:=(List.pairwise_cons.1 lf.sorted).1 y hy;omega
   rw[hr]at this;cases this
 induction fuel with
 | zero =>
  intro listed rem w c st a hl lf g iS hk go;obtain rfl:rem = []:=List.eq_nil_of_length_eq_zero (by omega);refine ⟨?_,go a w st c iS (.refl _ _ _) rfl hk⟩;cases hr:Region.ready .any ops listed with
  | nil=>rfl
  | cons i l =>
   have hi:i∈Region.ready .any ops listed:=by rw[hr]; simp
   obtain ⟨x,hx,_⟩:=lf.all i (mem_ready.1 hi).1;cases hx
 | succ fuel ih =>
  intro listed rem w c st a hl lf g iS hk go;refine ⟨fun hr => ?_,fun i hi => ?_⟩
  ·obtain rfl:=hnone _ _ lf hr;exact go a w st c iS (.refl _ _ _) rfl hk
  ·obtain ⟨hun,o,ho,hdone⟩:=mem_ready.1 hi;obtain ⟨x,hx,rfl⟩:=lf.all i hun;obtain ⟨pre,post,rfl⟩:=List.append_of_mem hx;have hox:=lf.op x (by simp);rw[hox]at ho;cases ho;have hsort:=lf.sorted;rw[List.pairwise_append,List.pairwise_cons]at hsort;have hbx:∀j∈b.getD x.1 [],listed.getD j false=true:=fun j hj=>by
    obtain ⟨e,he,hb,hor⟩:=hclo x.1 x.2.1 hox j hj;have hel:=hdone e he hb;rcases hor with rfl|hj
    ·exact hel
    ·exact lf.closed _ hel j hj
   have hpr:∀y∈pre,Pc tt E (S.map (·.1)) ops.toList y.2.1 x.2.1=true:=fun y hy=>by
    rcases hpair y.1 x.1 y.2.1 x.2.1 (hsort.2.2 y hy x (by simp)) (lf.op y (by simp[hy])) hox with h1|h1
    ·have h2:=hbx _ h1;have h3:=lf.un y (by simp[hy]);have hy':y.1<ops.size:=(Array.getElem?_eq_some_iff.1 (lf.op y (by simp[hy]))).1;rw[listed_iff (by rw[lf.size]; exact hy')]at h2;exact (h2 h3).elim
    ·exact h1
   have Vv:=bubble T hE iS g hpr hk;have hsize:x.1<listed.size:=by rw[lf.size]; exact (Array.getElem?_eq_some_iff.1 hox).1
   have lf':Left ops b (listed.setIfInBounds x.1 true) (pre++post):=by
    have hs:List.Sublist (pre++post) (pre++x::post):=List.Sublist.append (List.Sublist.refl _) (List.sublist_cons_self _ _);have jW:∀y∈pre++post,x.1≠y.1:=fun y hy=>by
     rcases List.mem_append.1 hy with hy|hy
     ·have:=hsort.2.2 y hy x (by simp); omega
     ·have:=hsort.2.1.1 y hy; omega
    refine ⟨by simp[lf.size],lf.sorted.sublist hs,fun y hy=>lf.op y (hs.subset hy),fun y hy => ?_,fun j hj => ?_,fun m hm j hj => ?_⟩
    ·rw[getD_set_ne true (jW y hy)]; exact lf.un y (hs.subset hy)
    ·by_cases e:x.1=j
     ·subst e; simp[hsize]at hj
     ·rw[getD_set_ne true e]at hj;obtain ⟨y,hy,ey⟩:=lf.all j hj;refine ⟨y,?_,ey⟩;rcases List.mem_append.1 hy with h1|h1
      ·exact List.mem_append_left _ h1
      ·rcases List.mem_cons.1 h1 with rfl|h1
       ·exact (e ey).elim
       ·exact List.mem_append_right _ h1
    ·refine getD_set_true ?_;by_cases e:x.1=m
     ·subst e; exact hbx j hj
     ·rw[getD_set_ne false e]at hm; exact lf.closed m hm j hj
   have hl':(pre++post).length≤fuel:=by simp at hl ⊢; omega
   unfold wpOp;simp only[hox];rcases Nu iS Vv with ⟨hw,Vv⟩|⟨hw,Vv⟩
   ·rw[if_pos hw];have Vv:F4 tt E (drS tt S base x.2.1) x.2.2 x.2.1 st (fun Xj=>PD tt E S base ops.toList (pre++post) Xj k)=some r:=by
     cases hS:TE tt E base S ops.toList x.2.1 (ev st.fr) st.hp with
     | true=>rw[hS]at Vv; exact Vv
     | false=>rw[hS]at Vv; cases Vv
    refine .inl (Qa T hE Vv iS (fun ha=>(g.slot x (by simp) ha).2) fun d w' yY c' v sim' xt kp _ _ vH => ?_);exact ih _ _ w' c' yY _ hl' lf' (g.step kp) sim' vH fun a2 w2 JI c2 s2 x2 d2 k2=>go a2 w2 JI c2 s2 (xt.trans x2) (d2.trans (put_defers _ _ _)) k2
   ·rw[if_neg (by simp[hw])];exact ih _ _ w c ⟨nF st.fr x.2.1.dst (.tuple []),st.hp⟩ (a.put x.2.1.dst undef) hl' lf' (g.step (.refl _ _ _)) ⟨iS.wf,HI iS.fr _ Xi⟩ Vv fun a2 w2 JI c2 s2 x2 d2 k2=>go a2 w2 JI c2 s2 x2 (d2.trans (put_defers _ _ _)) k2
theorem R5 (n:Nat):Ext w h c { w with drawn:=n } h c where
 os:=rfl
 tape:=rfl
 output:=rfl
 size:=Nat.le_refl _
 used:=fun _ hi=>hi
 same:=fun i hi hd=>⟨L8 (R1 hi.2 hd) (fun _ _ _ => .inr trivial),rfl,rfl⟩
 cell:=fun _ _ _ _=>rfl
 block:=fun _ _ _=>rfl
 CF:=fun _ _ _ ho=>ho
 ext:=rfl
 arr:=fun b arr e fz hb=>⟨arr,fz,hb,rfl⟩
theorem drawn_wf (wf:WF w h c) (n:Nat):WF { w with drawn:=n } h c where
 lay:=wf.wQ (R5 n)
 Ev:=wf.Ev
 sB:=wf.sB
 obj:=fun i hi=>by
  by_cases hl:(h.at i).live
  ·exact (wf.obj i hi).Ar (R5 n) (fun _ _=>rfl) rfl rfl
  ·have h0:h.at i = .free∨h.at i = .dead:=by revert hl; cases h.at i <;> simp[cb.live]
   rcases h0 with h0|h0 <;> rw[h0] <;> trivial
 inj:=wf.inj
theorem Yk (M:List Nat) (i:Nat):∀(es:List Nat) (m:Nat),(es.foldl (fun m e=>m ||| (Nat.pow 2 e ||| M.getD e 0)) m).testBit i=true→m.testBit i=true∨∃e∈es,e=i∨(M.getD e 0).testBit i=true
 | [],m,h => .inl h
 | e::es,m,h=>by
  rcases Yk M i es _ h with h|⟨x,hx,h⟩
  ·rw[Nat.testBit_or,Nat.testBit_or,Bool.or_eq_true,Bool.or_eq_true]at h;rcases h with h|h|h
   ·exact .inl h
   ·have h':(2 ^ e).testBit i=true:=h;rw[Nat.testBit_two_pow]at h';exact .inr ⟨e,by simp, .inl (of_decide_eq_true h')⟩
   ·exact .inr ⟨e,by simp, .inr h⟩
  ·exact .inr ⟨x,by simp[hx],h⟩
theorem Qc {n j i:Nat} {M:List Nat} (hj:j<n):i∈(beforeL n M).getD j []↔i<n∧(M.getD j 0).testBit i=true:=by
 unfold beforeL;rw[List.getD_eq_getElem?_getD,List.getElem?_map,List.getElem?_range hj];simp
theorem draw_sound (T:CU P tt) (hm:P.follows .mixedOrders=true) {E:Env R} (hE:EOk P E) {id:Nat} {ops:Array Oper} {k:St→Option R} {r:R} {Q:Exit→Act→World→Prop} {st:St} {a:Act}
  (hk:RY tt E ops.toList true st k=some r) (iS:TP w c st a) (go:Goes w c st a k r (Q .normal)):(Code.region id ops true).wp P Q a w:=by
 obtain ⟨S,hd,hk⟩:∃S:Option (Bool×List Nat),Ng tt E (S.map (·.1)) ops.toList=true∧PD tt E S st.hp.length ops.toList (number tt ops.toList 0 st.hp.length) ⟨st.fr,st.hp++List.replicate (ops.toList.filter (cf tt)).length .free⟩ k=some r:=by
  simp only[RY,if_true]at hk;split at hk
  ·rename_i hd;rw[opsK_eq _ 0]at hk;exact ⟨none,drawN_ok hd,hk⟩
  ·split at hk
   ·rename_i hd;rw[ZS _ 0]at hk;exact ⟨some (true,avoidM tt ops.toList st.fr),hd,hk⟩
   ·split at hk
    ·rename_i hd;rw[ZS _ 0]at hk;exact ⟨some (false,storesAt tt _ ops.toList st.fr),hd,hk⟩
    ·cases hk
 refine wp_region_any hm ?_;have uQ:∀j,j<ops.size→((List.range j).all (fun i=>((U8 ops.toList).getD j 0).testBit i||Pc tt E (S.map (·.1)) ops.toList (ops.toList.getD i default) (ops.toList.getD j default))=true ∧
   (Nf (ops.toList.getD j default)).all (fun i=>Nat.blt i j)=true∧(U8 ops.toList).getD j 0=ZK (U8 ops.toList) (Nf (ops.toList.getD j default))):=by
  intro j hj;unfold Ng at hd;simp only at hd;rw[List.all_eq_true]at hd;have:=hd j (by simpa using hj);simp only[Bool.and_eq_true]at this;exact ⟨this.1.1,this.1.2,Nat.eq_of_beq_eq_true this.2⟩
 have Iz:∀(j:Nat) (y:Oper),ops[j]? = some y→ops.toList.getD j default=y∧j<ops.size:=fun j y hy=>by
  refine ⟨?_,(Array.getElem?_eq_some_iff.1 hy).1⟩;rw[List.getD,Array.getElem?_toList,hy]; rfl
 have hbind:∀(y:Oper) (n:Nat),n∈Nf y↔∃e∈y.after,Region.binds .any e=true∧e.on=n:=by
  intro y n;simp[Nf,List.mem_map,List.mem_filter,and_assoc]
 have sim':TP { w with drawn:=w.drawn+1 } c ⟨st.fr,st.hp++List.replicate (ops.toList.filter (cf tt)).length .free⟩ a :=
  ⟨drawn_wf (Qb iS.wf _) _,(iS.fr.mono (yv _)).mono (R5 _)⟩
 refine any_sound T hE (S:=S) (base:=st.hp.length) (b:=beforeL ops.size (U8 ops.toList)) (fun i j x y B7 hx hy => ?_) (fun j y hy e he hb => ?_) (fun j y hy i hi => ?_) ops.size _ (number tt ops.toList 0 st.hp.length) _ c _ a ?_ ?_ ?_ sim' hk ?_
 ·obtain ⟨h1,h2⟩:=Iz i x hx;obtain ⟨h3,h4⟩:=Iz j y hy;have:=List.all_eq_true.1 (uQ j h4).1 i (by simpa using B7);rw[h1,h3,Bool.or_eq_true]at this;rcases this with h|h
  ·exact .inl ((Qc h4).2 ⟨h2,h⟩)
  ·exact .inr h
 ·obtain ⟨h3,h4⟩:=Iz j y hy;have:=(uQ j h4).2.1;rw[h3,List.all_eq_true]at this;simpa using this e.on ((hbind y _).2 ⟨e,he,hb,rfl⟩)
 ·obtain ⟨h3,h4⟩:=Iz j y hy;have heq:=(uQ j h4).2.2;have jz:=(uQ j h4).2.1;rw[h3]at heq jz;obtain ⟨hin,hbit⟩:=(Qc h4).1 hi;rw[heq]at hbit;unfold ZK at hbit;rcases Yk _ i _ _ hbit with h|⟨n,hn,h⟩
  ·simp at h
  ·obtain ⟨e,he,hb,rfl⟩:=(hbind y n).1 hn;refine ⟨e,he,hb,h.imp (fun h=>h) fun h => ?_⟩;have:=List.all_eq_true.1 jz e.on hn;have hon:e.on<j:=by simpa using this
   exact (Qc (Nat.lt_trans hon h4)).2 ⟨hin,h⟩
 ·have:∀(l:List Oper) (i id:Nat),(number tt l i id).length=l.length:=by
   intro l
   induction l with
   | nil=>intros; rfl
   | cons o l ih=>intros; simp[number,ih]
  rw[this]; simp
 ·refine ⟨by simp,(Ny _ _ _).imp fun h=>h.1,fun x hx => ?_,fun x hx => ?_,fun i hi => ?_,fun m hm => ?_⟩
  ·obtain ⟨_,_,h3,_⟩:=Bu _ _ _ x hx;simpa using h3
  ·obtain ⟨_,h2,_⟩:=Bu _ _ _ x hx;simp at h2;simp[h2]
  ·have:i<ops.size:=by
    rcases Nat.lt_or_ge i ops.size with h|h
    ·exact h
    ·simp[Nat.not_lt.2 h]at hi
   exact number_all _ 0 _ i (Nat.zero_le _) (by simpa using this)
  ·rcases Nat.lt_or_ge m ops.size with h|h
   ·simp[h]at hm
   ·simp[Nat.not_lt.2 h]at hm
 ·refine ⟨fun z hz ha=>(Bu _ _ _ z hz).2.2.2.2 ha,Yj ops.toList [] 0 _ rfl (by simp),fun z hz ha => ?_,(Ny _ _ _).imp fun h=>h.2⟩;obtain ⟨_,_,_,h4,h5⟩:=Bu _ _ _ z hz;have h5:=h5 ha;refine ⟨h4,by simp; omega,?_⟩;rw[jX h4];have:z.2.2 - st.hp.length<(ops.toList.filter (cf tt)).length:=by omega
  simp[aN.at,List.getD,List.getElem?_replicate,this]
 ·exact fun a2 w2 JI c2 s2 x2 d2 k2=>go a2 w2 JI c2 s2 (((yv _).trans (R5 _)).trans x2) d2 k2
end
section
variable {P:Program} {tt:dn} {w w':World} {h h':aN} {c c':j8} {R:Type}
theorem Yl (h:aN):∀(n:Nat) (l rest seen:List Nat),(seen++l).Nodup→l.length≤n→∃t,reach h n (l++rest) seen=seen++l++t
 | n, [],rest,seen,_,_=>by
  have key:∀(n:Nat) (todo seen:List Nat),∃t,reach h n todo seen=seen++t:=by
   intro n
   induction n with
   | zero=>exact fun _ _=>⟨[],by simp[reach]⟩
   | succ n ih =>
    intro todo seen;cases todo with
    | nil=>exact ⟨[],by simp[reach]⟩
    | cons i todo =>
     simp only[reach];split
     ·exact ih _ _
     ·obtain ⟨t,ht⟩:=ih (todo++(h.at i).ids) (seen ++ [i]);exact ⟨i::t,by rw[ht]; simp⟩
  obtain ⟨t,ht⟩:=key n rest seen;exact ⟨t,by simpa using ht⟩
 | 0,i::l,_,_,_,hl=>by simp at hl
 | n+1,i::l,rest,seen,hn,hl=>by
  have hi:i∉seen:=fun hm=>by
   rw[List.nodup_append]at hn;exact hn.2.2 i hm i (by simp) rfl
  obtain ⟨t,ht⟩:=Yl h n l (rest++(h.at i).ids) (seen ++ [i]) (by simpa using hn) (by simpa using hl);refine ⟨t,?_⟩;simp only[List.cons_append,reach,List.contains_iff_mem,hi,if_false,List.append_assoc]at ht ⊢;simpa using ht
theorem pick_ext' {w0:World} {h0:aN} {c0:j8} (x:Ext w0 h0 c0 w h c) {ord:List Nat} (hf:∀i,i<h0.length→ord[i]? = some i∨∃j,h.length≤j∧ord[i]? = some j):Ext w0 h0 c0 w (h.pick ord) (c.pick ord c.ext) where
 os:=x.os
 tape:=x.tape
 output:=x.output
 size:=x.size
 used:=fun i hi=>by
  rcases hf i hi.1 with e|⟨j,hj,e⟩
  ·refine ⟨by simpa [aN.pick]using (List.getElem?_eq_some_iff.1 e).1,?_⟩;rw[wS,e];simp only[ne_eq,IE];exact (x.used i hi).2
  ·refine ⟨by simpa [aN.pick]using (List.getElem?_eq_some_iff.1 e).1,?_⟩;rw[wS,e];simp only[ne_eq,IE,at_out hj];intro h; cases h
 same:=fun i hi hd=>by
  rcases hf i hi.1 with e|⟨j,hj,e⟩;rotate_left
  ·rw[wS,e]at hd;simp only[at_out hj]at hd;exact (hd rfl).elim
  rw[wS,e]at hd ⊢;simp only[ne_eq,Vq]at hd;obtain ⟨s1,s2,s3⟩:=x.same i hi hd;exact ⟨ren_sim_r.2 s1,by simp[j8.pick,e,s2],by simp[j8.pick,List.getD,e,s3]⟩
 cell:=x.cell
 block:=x.block
 CF:=fun b y hb ho=>by
  obtain ⟨i,_,f,g1,g2,g3⟩:=L7 ho;exact x.CF b y hb ⟨i,f,g1,g2,g3⟩
 ext:=x.ext
 arr:=x.arr
theorem pick_ext {w0:World} {h0:aN} {c0:j8} (x:Ext w0 h0 c0 w h c) {ord:List Nat} (hf:∀i,i<h0.length→ord[i]? = some i):Ext w0 h0 c0 w (h.pick ord) (c.pick ord c.ext):=pick_ext' x fun i hi => .inl (hf i hi)
theorem Vw (wf:WF w h c) {ord:List Nat} (Na:ord.Nodup):WF w (h.pick ord) (c.pick ord c.ext) :=
 pick_wf wf Na (fun _ _ hf=>hf.2) wf.sB (fun b x ⟨i,_,f,g1,g2,g3⟩=>wf.Ev b x ⟨i,f,g1,g2,g3⟩)
theorem SV {ord:List Nat} {cs:List V} {ds:List Value} (r:cz w h c cs ds):cz w (h.pick ord) (c.pick ord c.ext) (V.EY (EL ord) cs) ds :=
 r.sU (pick_ren fun _ _ hf=>hf.2)
theorem front_get {m:Nat} {t:List Nat} {i:Nat} (hi:i<m):(List.range m++t)[i]? = some i:=by
 rw[List.getElem?_append_left (by simpa using hi),List.getElem?_range hi]
theorem Ym (h:aN) {m n:Nat} (hmn:m≤n) (rest:List Nat):(reach h n (List.range m++rest) []).Nodup∧∀i,i<m→(reach h n (List.range m++rest) [])[i]? = some i:=by
 refine ⟨Ke h _ _ _ (by simp),fun i hi => ?_⟩;obtain ⟨t,ht⟩:=Yl h n (List.range m) rest [] (by simpa using List.nodup_range) (by simpa using hmn);rw[ht];simpa using front_get (t:=t) hi
theorem mem_mailRows {m i:Nat} (hi:i∈xA h m):i<m:=by
 unfold xA at hi;rw[List.mem_filter]at hi;simpa using hi.1
theorem rebirth_spec {m:Nat} {ord:List Nat} (hn:ord.Nodup) (hf:∀i,i<m→ord[i]? = some i):(Va h m ord).Nodup∧∀i,i<m→(Va h m ord)[i]? = some i∨∃j,h.length≤j∧(Va h m ord)[i]? = some j:=by
 unfold Va;cases hc:((xA h m).isEmpty || !(ord.all fun i=>Nat.blt i h.length))with
 | true=>exact ⟨hn,fun i hi => .inl (hf i hi)⟩
 | false =>
  simp only[Bool.or_eq_false_iff,Bool.not_eq_false',List.all_eq_true]at hc;have jz:∀i∈ord,i<h.length:=fun i hi=>by simpa using hc.2 i hi
  rw[cond_false];refine ⟨?_,fun i hi => ?_⟩
  ·rw[List.nodup_append];refine ⟨?_,?_,?_⟩
   ·unfold List.Nodup;rw[List.pairwise_map];refine List.Pairwise.imp_of_mem (fun {a b} ha hb hab => ?_) hn;have h1:=jz a ha;have h2:=jz b hb;cases h3:(xA h m).contains a <;> cases h4:(xA h m).contains b <;> simp only[cond_true,cond_false,ne_eq] <;> omega
   ·unfold xA;exact List.Nodup.sublist List.filter_sublist List.nodup_range
   ·intro a ha b hb hab;subst hab;rw[List.mem_map]at ha;obtain ⟨z,hz,e⟩:=ha;cases h3:(xA h m).contains z with
    | true =>
     rw[h3,cond_true]at e;have h4:=mem_mailRows hb;have h5:=(List.getElem?_eq_some_iff.1 (hf a h4));have h6:=jz a (List.mem_of_getElem? (hf a h4));omega
    | false =>
     rw[h3,cond_false]at e;subst e;simp[hb]at h3
  ·have e:=hf i hi;rw[List.getElem?_append_left (by simpa using (List.getElem?_eq_some_iff.1 e).1),List.getElem?_map,e];cases h3:(xA h m).contains i with
   | true=>exact .inr ⟨h.length+i,by omega,by simp only[Option.map_some,h3,cond_true]⟩
   | false=>exact .inl (by simp only[Option.map_some,h3,cond_false])
theorem gc_sound {w0:World} {h0:aN} {c0:j8} {st:St} {a:Act} (iS:TP w c st a) (x:Ext w0 h0 c0 w st.hp c) (hm:h0.length≤200):∃c',TP w c' (st.gc h0.length) a∧Ext w0 h0 c0 w (st.gc h0.length).hp c':=by
 obtain ⟨h1,h2⟩:=Ym st.hp (m:=h0.length) (n:=256) (by omega) (V.yr st.fr);exact ⟨_,⟨Vw iS.wf h1,SV iS.fr⟩,pick_ext x h2⟩
theorem TU {fr:List V} {ds:List Value} (r:cz w h c fr ds) (live drop:List Nat):cz w h c (Nh live drop fr) ds:=by
 refine ⟨by simp[Nh,r.1],fun j v d hv hd => ?_⟩;unfold Nh at hv;rw[List.getElem?_map,List.getElem?_zipIdx]at hv;cases e:fr[j]? with
 | none=>rw[e]at hv; cases hv
 | some u =>
  rw[e]at hv;simp at hv;subst hv;have ru:=r.2 j u d e hd;split
  ·split
   ·exact Yf ru
   ·exact ru
  ·exact .undef _
theorem HJ:∀(l:List (Nat×Ty)) (st:St) (c:j8) (a:Act),TP w c st a→∃c',TP w c' (TF l st) a∧Ext w st.hp c w (TF l st).hp c'
 | [],st,c,a,iS=>⟨c,iS, .refl _ _ _⟩
 | (d,T)::l,st,c,a,iS=>by
  have key:∀(U:Ty),(∀x,a.tmps.toList[d]? = some x→x = .slice none 0 0) →
    ∃c',TP w c' ⟨st.fr.set d (.sl U [] (.own st.hp.length)),st.hp ++ [.tok]⟩ a∧Ext w st.hp c w (st.hp ++ [.tok]) c':=by
   intro U hx;obtain ⟨c',k1,k2,k3⟩:=Vl (id:=st.hp.length) (T:=U) (Qb iS.wf 1) (by simp) (by rw[jX (Nat.le_refl _)]; simp[aN.at]);have e:(st.hp++List.replicate 1 cb.free).set st.hp.length .tok=st.hp ++ [.tok]:=by simp
   rw[e]at k1 k2 k3;have k4:=(yv (w:=w) (h:=st.hp) (c:=c) 1).trans k2;refine ⟨c',⟨k1,?_⟩,k4⟩;have rf:=iS.fr.mono k4;refine ⟨by simp[rf.1],fun j v x hv hx' => ?_⟩;rw[List.getElem?_set]at hv;by_cases hj:d=j
   ·subst hj;rw[if_pos rfl]at hv;split at hv
    ·cases hv;rw[hx x hx'];exact k3
    ·cases hv
   ·rw[if_neg hj]at hv;exact rf.2 j v x hv hx'
  simp only[TF];have rd:=iS.fr.getD d undef;split
  ·rename_i he;rw[he]at rd;obtain ⟨c',s',x'⟩:=key T fun x hx=>by
    rw[List.getD,hx]at rd;cases rd; rfl
   obtain ⟨c2,s2,x2⟩:=HJ l _ c' a s';exact ⟨c2,s2,x'.trans x2⟩
  ·rename_i T' l' he;rw[he]at rd;have hl:l' = []:=by
    generalize a.tmps.toList.getD d undef=q at rd;cases rd with
    | sl f jd uP hc hr E0 mz =>
     have:=(E0 rfl).2;exact List.eq_nil_of_length_eq_zero (by omega)
   subst hl;obtain ⟨c',s',x'⟩:=key T' fun x hx=>by
    rw[List.getD,hx]at rd;simp only[Option.getD_some]at rd;generalize hn:([]:List T'.den)=nl at rd;cases rd with
    | sl f jd uP hc hr E0 mz =>
     obtain ⟨rfl,rfl⟩:=E0 rfl;subst hn;rfl
   obtain ⟨c2,s2,x2⟩:=HJ l _ c' a s';exact ⟨c2,s2,x'.trans x2⟩
  ·exact HJ l st c a iS
theorem put_nil {st:St} {a:Act} {d:Nat} {v:V} {h':aN} {c':j8} (iS:TP w c st a) (he:st.fr.getD d .undef = .bB) (k1:WF w h' c') (k4:Ext w st.hp c w h' c') (k3:dx w h' c' v (.slice none 0 0)) :
  TP w c' ⟨st.fr.set d v,h'⟩ a:=by
 refine ⟨k1,?_⟩;have rf:=iS.fr.mono k4;refine ⟨by simp[rf.1],fun j u x hv hx' => ?_⟩;rw[List.getElem?_set]at hv;by_cases hj:d=j
 ·subst hj;rw[if_pos rfl]at hv;split at hv
  ·cases hv;have rd:=iS.fr.getD d undef;rw[he,List.getD,hx']at rd;cases rd;exact k3
  ·cases hv
 ·rw[if_neg hj]at hv;exact rf.2 j u x hv hx'
theorem new_row (wf:WF w h c) (T:Ty):∃c',WF w (h ++ [.row T []]) c'∧Ext w h c w (h ++ [.row T []]) c'∧dx w (h ++ [.row T []]) c' (.row h.length 0) (.slice none 0 0):=by
 obtain ⟨c',k1,k2,k3⟩:=none_row (id:=h.length) (T:=T) (Qb wf 1) (by simp) (by rw[jX (Nat.le_refl _)]; simp[aN.at]);have e:(h++List.replicate 1 cb.free).set h.length (.row T [])=h ++ [.row T []]:=by simp
 rw[e]at k1 k2 k3;exact ⟨c',k1,(yv 1).trans k2,k3⟩
theorem new_cell (wf:WF w h c) (T:Ty) (rw:Bool):∃c',WF w (h ++ [Hl T rw]) c'∧Ext w h c w (h ++ [Hl T rw]) c'∧dx w (h ++ [Hl T rw]) c' (CY T rw h.length) (.slice none 0 0):=by
 unfold Hl CY;cases rw with
 | true=>exact new_row wf T
 | false =>
  simp only[cond_false];obtain ⟨c',k1,k2,k3⟩:=Vl (id:=h.length) (T:=T) (Qb wf 1) (by simp) (by rw[jX (Nat.le_refl _)]; simp[aN.at]);have e:(h++List.replicate 1 cb.free).set h.length .tok=h ++ [.tok]:=by simp
  rw[e]at k1 k2 k3;exact ⟨c',k1,(yv 1).trans k2,k3⟩
theorem Nz:∀(l:List (Nat×Ty)) (st:St) (c:j8) (a:Act),TP w c st a→∃c',TP w c' (P4 l st) a∧Ext w st.hp c w (P4 l st).hp c'
 | [],st,c,a,iS=>⟨c,iS, .refl _ _ _⟩
 | (d,T)::l,st,c,a,iS=>by
  simp only[P4];split
  ·rename_i he;obtain ⟨c',k1,k2,k3⟩:=new_row iS.wf T;obtain ⟨c2,s2,x2⟩:=Nz l ⟨st.fr.set d (.row st.hp.length 0),st.hp ++ [.row T []]⟩ c' a (put_nil iS he k1 k2 k3);exact ⟨c2,s2,k2.trans x2⟩
  ·exact Nz l st c a iS
theorem Xn {i:Nat} {cs ds:List V} (he:h.at i = .cells cs) (hl:ds.length=cs.length):Ext w h c w (h.set i (.cells ds)) c where
 os:=rfl
 tape:=rfl
 output:=rfl
 size:=Nat.le_refl _
 used:=fun j hj=>⟨by simpa using hj.1,by rw[mR]; split; simp; exact hj.2⟩
 same:=fun j hj hd=>by
  rw[mR]at hd ⊢;split
  ·rename_i hc;obtain ⟨rfl,_⟩:=hc;rw[he];exact ⟨hl.symm,rfl,rfl⟩
  ·rename_i hc;rw[if_neg hc]at hd;exact ⟨L8 (R1 hj.2 hd) (fun _ _ _ => .inr trivial),rfl,rfl⟩
 cell:=fun _ _ _ _=>rfl
 block:=fun _ _ _=>rfl
 CF:=fun b x _ ho=>by
  obtain ⟨j,f,g1,g2,g3⟩:=ho;rw[mR]at g2;split at g2
  ·rename_i hc;obtain ⟨rfl,_⟩:=hc;exact ⟨i,f,g1,by rw[he]; exact g2,g3⟩
  ·exact ⟨j,f,g1,g2,g3⟩
 ext:=rfl
 arr:=fun b arr e fz hb=>⟨arr,fz,hb,rfl⟩
theorem cells_wf (wf:WF w h c) {i:Nat} {cs ds:List V} (he:h.at i = .cells cs) (hl:ds.length=cs.length) (JH:pa w (h.set i (.cells ds)) c i (.cells ds)):WF w (h.set i (.cells ds)) c where
 lay:=wf.wQ (Xn he hl)
 Ev:=fun b x ho he'=>by
  obtain ⟨j,f,g1,g2,g3⟩:=ho;refine wf.Ev b x ?_ he';rw[mR]at g2;split at g2
  ·rename_i hc;obtain ⟨rfl,_⟩:=hc;exact ⟨i,f,g1,by rw[he]; exact g2,g3⟩
  ·exact ⟨j,f,g1,g2,g3⟩
 sB:=wf.sB
 obj:=fun j hj=>by
  rw[mR];split
  ·rename_i hc;obtain ⟨rfl,_⟩:=hc;exact JH
  ·have ho:=wf.obj j (by simpa using hj);by_cases hv:(h.at j).live
   ·exact ho.Ar (Xn he hl) (fun _ _=>rfl) rfl rfl
   ·have h0:h.at j = .free∨h.at j = .dead:=by revert hv; cases h.at j <;> simp[cb.live]
    rcases h0 with h0|h0 <;> rw[h0] <;> trivial
 inj:=fun j k b hj hk h1 h2=>by
  have key:∀j,(aN.at (h.set i (.cells ds)) j).live→(h.at j).live:=fun j hj=>by
   rw[mR]at hj;split at hj
   ·rename_i hc;obtain ⟨rfl,_⟩:=hc;rw[he]; trivial
   ·exact hj
  exact wf.inj j k b (key j hj) (key k hk) h1 h2
theorem turn_ext {i:Nat} {o':cb} (hf:∀f,(h.at i).from_ f=some 0) (hf':∀f,o'.from_ f=some 0) (zA:(h.at i).iS o') (jW:o' ≠ .free):Ext w h c w (h.set i o') c where
 os:=rfl
 tape:=rfl
 output:=rfl
 size:=Nat.le_refl _
 used:=fun j hj=>⟨by simpa using hj.1,by rw[mR]; split; exact jW; exact hj.2⟩
 same:=fun j hj hd=>by
  rw[mR]at hd ⊢;split
  ·rename_i hc;obtain ⟨rfl,_⟩:=hc;exact ⟨zA,rfl,rfl⟩
  ·rename_i hc;rw[if_neg hc]at hd;exact ⟨L8 (R1 hj.2 hd) (fun _ _ _ => .inr trivial),rfl,rfl⟩
 cell:=fun _ _ _ _=>rfl
 block:=fun _ _ _=>rfl
 CF:=fun b x _ ho=>by
  obtain ⟨j,f,g1,g2,g3⟩:=ho;rw[mR]at g2;split at g2
  ·rename_i hc;obtain ⟨rfl,_⟩:=hc;rw[hf']at g2;cases g2;exact ⟨i,0,g1,hf _,g3⟩
  ·exact ⟨j,f,g1,g2,g3⟩
 ext:=rfl
 arr:=fun b arr e fz hb=>⟨arr,fz,hb,rfl⟩
theorem turn_wf (wf:WF w h c) {i:Nat} {o':cb} (hf:∀f,(h.at i).from_ f=some 0) (hf':∀f,o'.from_ f=some 0) (zA:(h.at i).iS o') (jW:o' ≠ .free) (JH:pa w (h.set i o') c i o'):WF w (h.set i o') c where
 lay:=wf.wQ (turn_ext hf hf' zA jW)
 Ev:=fun b x ho he'=>by
  obtain ⟨j,f,g1,g2,g3⟩:=ho;refine wf.Ev b x ?_ he';rw[mR]at g2;split at g2
  ·rename_i hc;obtain ⟨rfl,_⟩:=hc;rw[hf']at g2;cases g2;exact ⟨i,0,g1,hf _,g3⟩
  ·exact ⟨j,f,g1,g2,g3⟩
 sB:=wf.sB
 obj:=fun j hj=>by
  rw[mR];split
  ·rename_i hc;obtain ⟨rfl,_⟩:=hc;exact JH
  ·have ho:=wf.obj j (by simpa using hj);by_cases hv:(h.at j).live
   ·exact ho.Ar (turn_ext hf hf' zA jW) (fun _ _=>rfl) rfl rfl
   ·have h0:h.at j = .free∨h.at j = .dead:=by revert hv; cases h.at j <;> simp[cb.live]
    rcases h0 with h0|h0 <;> rw[h0] <;> trivial
 inj:=fun j k b hj hk h1 h2=>by
  have key:∀j,(aN.at (h.set i o') j).live→(h.at j).live:=fun j hj=>by
   rw[mR]at hj;split at hj
   ·rename_i hc;obtain ⟨rfl,_⟩:=hc;exact wi (hf 0)
   ·exact hj
  exact wf.inj j k b (key j hj) (key k hk) h1 h2
theorem wj:∀(l:List (Nat×Nat×Ty×Bool)) (st:St) (c:j8) (a:Act),TP w c st a→∃c',TP w c' (HF l st) a∧Ext w st.hp c w (HF l st).hp c'
 | [],st,c,a,iS=>⟨c,iS, .refl _ _ _⟩
 | (i,o,T,rw)::l,st,c,a,iS=>by
  simp only[HF];split
  ·rename_i cs FN;split
   ·rename_i ho;obtain ⟨c',k1,k2,k3⟩:=new_cell iS.wf T rw;have hi:=aN.gK FN (by simp);have hcs':aN.at (st.hp ++ [Hl T rw]) i = .cells cs:=by rw[kL hi]; exact FN
    have e:st.hp.set i (.cells (cs.set o (CY T rw st.hp.length))) ++ [Hl T rw]=(st.hp ++ [Hl T rw]).set i (.cells (cs.set o (CY T rw st.hp.length))):=by
     rw[List.set_append_left _ _ hi]
    rw[e];have hl:(cs.set o (CY T rw st.hp.length)).length=cs.length:=by simp
    have x1:=Xn (w:=w) (c:=c') hcs' hl;have JH:=k1.obj i (by simp; omega);rw[hcs']at JH;obtain ⟨b,arr,el,g1,g2,g3⟩:=JH;have w1:=cells_wf k1 hcs' hl (by
     refine ⟨b,arr,el,g1,g2,?_⟩;have g3':=g3.mono x1;refine ⟨by simpa using g3'.1,fun j v d hv hd => ?_⟩;rw[List.getElem?_set]at hv;by_cases hj:o=j
     ·subst hj;rw[if_pos rfl]at hv;split at hv
      ·cases hv;have rd:=g3.getD o undef;rw[ho,List.getD,hd]at rd;cases rd;exact k3.mono x1
      ·cases hv
     ·rw[if_neg hj]at hv;exact g3'.2 j v d hv hd)
    have x2:=k2.trans x1;obtain ⟨c2,s2,x3⟩:=wj l ⟨st.fr,(st.hp ++ [Hl T rw]).set i (.cells (cs.set o (CY T rw st.hp.length)))⟩ c' a ⟨w1,iS.fr.mono x2⟩;exact ⟨c2,s2,x2.trans x3⟩
   ·exact wj l st c a iS
  ·rename_i v FN;split
   ·obtain ⟨c',k1,k2,k3⟩:=new_cell iS.wf T rw;have hi:=aN.gK FN (by simp);have hcs':aN.at (st.hp ++ [Hl T rw]) i = .mZ .bB:=by rw[kL hi]; exact FN
    have e:st.hp.set i (.mZ (CY T rw st.hp.length)) ++ [Hl T rw]=(st.hp ++ [Hl T rw]).set i (.mZ (CY T rw st.hp.length)):=by
     rw[List.set_append_left _ _ hi]
    rw[e];have hf:∀f,(aN.at (st.hp ++ [Hl T rw]) i).from_ f=some 0:=fun f=>by rw[hcs']; rfl
    have zA:(aN.at (st.hp ++ [Hl T rw]) i).iS (.mZ (CY T rw st.hp.length)):=by rw[hcs']; trivial
    have x1:=turn_ext (w:=w) (c:=c') hf (o' := .mZ (CY T rw st.hp.length)) (fun _=>rfl) zA (by simp);have JH:=k1.obj i (by simp; omega);rw[hcs']at JH;obtain ⟨b,p,d,g1,g2,g3,g4⟩:=JH;have w1:=turn_wf k1 hf (o' := .mZ (CY T rw st.hp.length)) (fun _=>rfl) zA (by simp) (by
     cases g4;exact ⟨b,p,_,g1,g2,g3,k3.mono x1⟩)
    have x2:=k2.trans x1;obtain ⟨c2,s2,x3⟩:=wj l ⟨st.fr,(st.hp ++ [Hl T rw]).set i (.mZ (CY T rw st.hp.length))⟩ c' a ⟨w1,iS.fr.mono x2⟩;exact ⟨c2,s2,x2.trans x3⟩
   ·exact wj l st c a iS
  ·exact wj l st c a iS
theorem norm_sound {w0:World} {h0:aN} {c0:j8} {st:St} {a:Act} (iS:TP w c st a) (x:Ext w0 h0 c0 w st.hp c) (hm:h0.length≤200) (hint:Hint) :
  ∃c',TP w c' (norm h0.length hint st) a∧Ext w0 h0 c0 w (norm h0.length hint st).hp c':=by
 obtain ⟨c,iS,x⟩:∃c',TP w c' (preGc h0.length hint ⟨Nh hint.live hint.drop st.fr,st.hp⟩) a∧Ext w0 h0 c0 w (preGc h0.length hint ⟨Nh hint.live hint.drop st.fr,st.hp⟩).hp c':=by
  unfold preGc;split
  ·exact ⟨c,⟨iS.wf,TU iS.fr _ _⟩,x⟩
  ·exact gc_sound (st:=⟨Nh hint.live hint.drop st.fr,st.hp⟩) ⟨iS.wf,TU iS.fr _ _⟩ x hm
 obtain ⟨c1,s1,x1⟩:=HJ hint.own _ c a iS;obtain ⟨c2,s2,x2⟩:=Nz hint.rows _ c1 a s1;obtain ⟨c3,s3,x3⟩:=wj hint.cells _ c2 a s2;exact gc_sound s3 (((x.trans x1).trans x2).trans x3) hm
theorem trim_sound {w0:World} {h0:aN} {c0:j8} {st:St} {a:Act} (iS:TP w c st a) (x:Ext w0 h0 c0 w st.hp c) (hm:h0.length≤200) (hint:Hint) :
  ∃c',TP w c' (trim h0.length hint st) a∧Ext w0 h0 c0 w (trim h0.length hint st).hp c' :=
 gc_sound (st:=⟨Nh hint.out [] st.fr,st.hp⟩) ⟨iS.wf,TU iS.fr _ _⟩ x hm
theorem canonL_rep:∀(ts:List Nat) (vs:List V) (ds:List Value),ts.length=ds.length→cz w h c vs ds→cz w h c (canonL tt ts vs) ds
 | [],vs,ds,hl,r=>by
  have:ds = []:=List.eq_nil_of_length_eq_zero hl.symm;subst this;exact .nil
 | t::ts, [],ds,hl,r=>by
  have:ds = []:=List.eq_nil_of_length_eq_zero (by simpa using r.1.symm);subst this;simp at hl
 | t::ts,v::vs, [],hl,r=>by simp at hl
 | t::ts,v::vs,d::ds,hl,r => .cons (canon_rep r.head) (canonL_rep ts vs ds (by simpa using hl) r.tail)
end
section
variable {P:Program} {tt:dn} {R:Type}
def zC (fr:List V) (log:List (Nat×V)):List V:=log.foldr (fun x f=>f.set x.1 x.2) fr
theorem E8 (fr:List V):∀log:List (Nat×V),(zC fr log).length=fr.length
 | []=>rfl
 | x::log=>by simp[zC]; exact E8 fr log
theorem beqF (a b:Nat):Nat.beq a b=decide (a=b):=by
 cases hb:Nat.beq a b with
 | true=>simp[Nat.eq_of_beq_eq_true hb]
 | false=>simp[Nat.ne_of_beq_eq_false hb]
theorem look_eq (fr:List V) (t:Nat) (d:V) (hd:fr.getD t .undef=d):∀log:List (Nat×V),(∀x∈log,x.1<fr.length)→SS log t d=(zC fr log).getD t .undef
 | [],_=>hd.symm
 | x::log,h=>by
  have ih:=look_eq fr t d hd log fun y hy=>h y (by simp[hy])
  have hx:=h x (by simp);have hl:=E8 fr log;have e:zC fr (x::log)=(zC fr log).set x.1 x.2:=rfl;have e2:SS (x::log) t d=cond (Nat.beq x.1 t) x.2 (SS log t d):=rfl;rw[e,e2,beqF,ih];by_cases hxt:x.1=t
  ·subst hxt;simp[List.getD,List.getElem?_set_self,hl,hx]
  ·simp[hxt,List.getD,List.getElem?_set_ne hxt]
theorem lookC_eq {β:Type} (t:Nat) (d:V) (k:V→β):∀log:List (Nat×V),lookC log t d k=k (SS log t d)
 | []=>rfl
 | x::log=>by
  have ih:=lookC_eq t d k log;have e1:lookC (x::log) t d k=cond (Nat.beq x.1 t) (k x.2) (lookC log t d k):=rfl;have e2:SS (x::log) t d=cond (Nat.beq x.1 t) x.2 (SS log t d):=rfl;rw[e1,e2,ih];cases Nat.beq x.1 t <;> rfl
def E9 (log:List (Nat×V)):Nat→List V→List V
 | _, [] => []
 | i,v::r=>SS log i v::E9 log (i+1) r
theorem Yn {β:Type} (log:List (Nat×V)):∀(fr:List V) (i:Nat) (k:List V→β),
  List.rec (motive:=fun _=>Nat→(List V→β)→β) (fun _ k=>k []) (fun v _ ih i k=>lookC log i v fun v'=>ih (i+1) fun r=>k (v'::r)) fr i k=k (E9 log i fr)
 | [],_,_=>rfl
 | v::fr,i,k=>by
  show lookC log i v (fun v'=>List.rec (motive:=fun _=>Nat→(List V→β)→β) (fun _ k=>k []) (fun v _ ih i k=>lookC log i v fun v'=>ih (i+1) fun r=>k (v'::r)) fr (i+1) fun r=>k (v'::r))=_;rw[lookC_eq,Yn log fr (i+1)];rfl
theorem SW (log:List (Nat×V)):∀(fr:List V) (i j:Nat),(E9 log i fr)[j]? = (fr[j]?).map fun v=>SS log (i+j) v
 | [],_,_=>by simp[E9]
 | v::fr,i,0=>by simp[E9]
 | v::fr,i,j+1=>by
  simp only[E9,List.getElem?_cons_succ];rw[SW log fr (i+1) j];congr 1;funext v;congr 1;omega
theorem mergeC_eq {β:Type} (fr:List V) (log:List (Nat×V)) (hl:∀x∈log,x.1<fr.length) (k:List V→β):mergeC log fr k=k (zC fr log):=by
 have h1:mergeC log fr k=k (E9 log 0 fr):=Yn log fr 0 k;rw[h1];congr 1;apply List.ext_getElem?;intro j;rw[SW,Nat.zero_add];cases hj:fr[j]? with
 | none =>
  have:(zC fr log)[j]? = none:=by
   rw[List.getElem?_eq_none_iff,E8];exact List.getElem?_eq_none_iff.1 hj
  rw[this]; rfl
 | some v =>
  have jz:j<(zC fr log).length:=by rw[E8]; exact (List.getElem?_eq_some_iff.1 hj).1
  have h2:=look_eq fr j v (by simp[List.getD,hj]) log hl;rw[Option.map_some,h2];simp[List.getD,List.getElem?_eq_getElem jz]
theorem evF_eq (fr:List V) (log:List (Nat×V)) (hl:∀x∈log,x.1<fr.length):evF fr log=ev (zC fr log):=by
 funext x;cases x with
 | tmp t=>exact look_eq fr t _ rfl log hl
 | _=>rfl
theorem push_eq (fr:List V) (log:List (Nat×V)) (dst:Option Nat) (v:V):zC fr (pushF fr.length log dst v)=nF (zC fr log) dst v:=by
 cases dst with
 | none=>rfl
 | some d =>
  unfold pushF nF;simp only;cases h:Nat.blt d fr.length with
  | true=>rfl
  | false =>
   have:¬d<fr.length:=by
    intro h2;have h3:Nat.blt d fr.length=true:=by simpa using h2
    rw[h3]at h;cases h
   simp only[cond_false];rw[List.set_eq_of_length_le (by rw[E8]; omega)]
theorem push_ok {fr:List V} {log:List (Nat×V)} (hl:∀x∈log,x.1<fr.length) (dst:Option Nat) (v:V):∀x∈pushF fr.length log dst v,x.1<fr.length:=by
 cases dst with
 | none=>exact hl
 | some d =>
  unfold pushF;simp only;cases h:Nat.blt d fr.length with
  | true =>
   intro x hx;rcases List.mem_cons.1 hx with rfl|hx
   ·simpa using h
   ·exact hl x hx
  | false=>exact hl
theorem stepF_eq {E:Env R} {drawn:Option Nat} {id:Nat} {o:Oper} {st:St} {k:St→Option R}:F4 tt E drawn id o st k=stepF tt E drawn id o (ev st.fr) st.hp fun v h=>k ⟨nF st.fr o.dst v,h⟩:=by
 unfold F4 stepF;cases fE tt o.op <;> rfl
theorem guardF_eq {all:List Oper} {o:Oper} {fr:List V} {log:List (Nat×V)} {hp:aN} (hl:∀x∈log,x.1<fr.length) {run skip:St→Option R} {runF skipF:List (Nat×V)→Option R}
  (hr:∀log,(∀x∈log,x.1<fr.length)→runF log=run ⟨zC fr log,hp⟩) (hs:∀log,(∀x∈log,x.1<fr.length)→skipF log=skip ⟨zC fr log,hp⟩) :
  guardF all o fr log runF skipF=Bt all o ⟨zC fr log,hp⟩ run skip:=by
 unfold guardF Bt;cases o.guard with
 | none=>exact hr log hl
 | some jw =>
  obtain ⟨j,want⟩:=jw;simp only;cases (all[j]?).bind (·.dst)with
  | none=>rfl
  | some d =>
   simp only;rw[look_eq fr d _ rfl log hl];cases hb:(zC fr log).getD d .undef with
   | bool b =>
    have hd:d<fr.length:=by
     rcases Nat.lt_or_ge d fr.length with h|h
     ·exact h
     ·rw[←E8 fr log]at h;simp[List.getD,List.getElem?_eq_none h]at hb
    have h2:∀v:V,∀x∈(d,v)::log,x.1<fr.length:=fun v x hx=>by
     rcases List.mem_cons.1 hx with rfl|hx
     ·exact hd
     ·exact hl x hx
    simp only;rw[hr _ (h2 _),hs _ (h2 _),hr _ (h2 _),hs _ (h2 _)];rfl
   | tuple vs =>
    cases vs with
    | nil=>exact hs log hl
    | cons _ _=>rfl
   | _=>rfl
theorem opsF_eq {E:Env R} {drawn:Option Nat} {all:List Oper} {fr:List V}:∀(l:List Oper) (id:Nat) (log:List (Nat×V)) (hp:aN) (k:St→Option R),(∀x∈log,x.1<fr.length) →
  opsF tt E drawn all fr.length fr l id log hp k=opsK tt E drawn all l id ⟨zC fr log,hp⟩ k
 | [],_,log,hp,k,hl=>by
  simp only[opsF,opsK];rw[mergeC_eq fr log hl,L1]
 | o::l,id,log,hp,k,hl=>by
  simp only[opsF,opsK,Nd];refine guardF_eq hl (fun log hl => ?_) fun log hl => ?_
  ·rw[stepF_eq,evF_eq fr log hl];congr 1;funext v h;rw[L1,opsF_eq l _ _ _ _ (push_ok hl o.dst v),push_eq]
  ·rw[opsF_eq l _ _ _ _ (push_ok hl o.dst _),push_eq]
theorem regionF_eq {E:Env R} {ops:List Oper} {draw:Bool} {st:St} {k:St→Option R}:regionF tt E ops draw st k=RY tt E ops draw st k:=by
 unfold regionF RY;simp only;have h:=fun (dr:Option Nat) (hp:aN)=>opsF_eq (tt:=tt) (E:=E) (drawn:=dr) (all:=ops) (fr:=st.fr) ops st.hp.length [] hp k (by simp)
 rw[h,h];rfl
end
section
variable {P:Program} {tt:dn} {w w':World} {h h':aN} {c c':j8} {R:Type}
def Ex.out:Ex→Exit
 | .normal => .normal
 | .exit id => .exit id
 | .goto l => .goto l
 | .ret => .ret
theorem anyT_some {a b:Option R} {r:R} (h:anyT a b=some r):a=some r∧b=some r:=by
 unfold anyT at h;split at h
 ·rename_i e; exact ⟨h,e▸h⟩
 ·cases h
theorem wp_rounds {b0:Code} {Q:Exit→Act→World→Prop} (I:Nat→Act→World→Prop) (h0:∀a w, ¬I 0 a w) (round:∀n a w,I (n+1) a w→b0.wp P (Exit.then (I n) Q) a w) {n:Nat} {a:Act} {w:World} (hI:I n a w) :
  (Code.loop b0).wp P Q a w:=by
 intro b k cs;have key:∀n a w,I n a w→∃e a' w',Q e a' w'∧Arrives P (lone (b.at a (.code b0 :: .inLoop b0::k)) cs w) b k cs e a' w':=by
  intro n
  induction n with
  | zero=>exact fun a w h=>(h0 a w h).elim
  | succ n ih =>
   intro a w hI;obtain ⟨e,a1,w1,hq,IB⟩:=round n a w hI b (.inLoop b0::k) cs;cases e with
   | normal =>
    obtain ⟨e2,a2,w2,hq2,harr2⟩:=ih a1 w1 hq;exact ⟨e2,a2,w2,hq2, .of_steps (Steps.trans IB (.one step_inLoop)) harr2⟩
   | exit id=>exact ⟨_,a1,w1,hq, .pass (x := .inLoop b0) rfl (fun _ _ => .inl (by simp)) IB⟩
   | goto l=>exact ⟨_,a1,w1,hq, .pass (x := .inLoop b0) rfl (fun _ _ => .inl (by simp)) IB⟩
   | ret=>exact ⟨_,a1,w1,hq, .pass (x := .inLoop b0) rfl (fun _ _ => .inl (by simp)) IB⟩
   | panic ch=>exact ⟨_,a1,w1,hq, .pass (x := .inLoop b0) rfl (fun _ _ => .inl (by simp)) IB⟩
   | outgrown=>exact ⟨_,a1,w1,hq, .pass (x := .inLoop b0) rfl (fun _ _ => .inl (by simp)) IB⟩
 obtain ⟨e,a',w',hq,IB⟩:=key n a w hI;exact ⟨e,a',w',hq, .of_steps (.one step_loop) IB⟩
def gN (tt:dn) (E:Env R) (L:Nat→Option (Hint×cQ R)) (m:Nat) (a:Code):Prop :=
 ∀hint ls,L (keyOf a)=some (hint,ls)→∀st (K:Ex→St→Option R) r,ls st K=some r→∃n,Kb (kJ tt E L m a) (norm m hint) n st (fun e st=>K e (trim m hint st))=some r
def az:Code→List Code
 | .seq a b=>az a++az b
 | .cond _ a b=>az a++az b
 | .block _ a=>az a
 | .loop a=>a::az a
 | _ => []
theorem iterK_eq (body:cQ R):∀n st K,iterK body n st K=Kb body id n st K
 | 0,_,_=>rfl
 | n+1,st,K=>by
  simp only[iterK,Kb];congr 1;funext e yY;cases e <;> first|rfl|exact iterK_eq body n yY K
section
variable {w0:World} {h0:aN} {c0:j8} {D:List Deferred}
structure At (w0:World) (h0:aN) (c0:j8) (D:List Deferred) (w:World) (st:St) (a:Act) (c:j8):Prop where
 iS:TP w c st a
 ext:Ext w0 h0 c0 w st.hp c
 defers:a.defers=D
def Ends (w0:World) (h0:aN) (c0:j8) (D:List Deferred) (K:Ex→St→Option R) (r:R) (Q:Exit→Act→World→Prop):Prop :=
 ∀e st a w c,At w0 h0 c0 D w st a c→K e st=some r→Q e.out a w
theorem oq (T:CU P tt) (hm:P.follows .mixedOrders=true) {E:Env R} (hE:EOk P E) {L:Nat→Option (Hint×cQ R)} (hlen:h0.length≤200) {r:R}:∀(code:Code),(∀a∈az code,gN tt E L h0.length a) →
  ∀(Q:Exit→Act→World→Prop) (K:Ex→St→Option R) (st:St) (a:Act) (w:World) (c:j8),At w0 h0 c0 D w st a c→kJ tt E L h0.length code st K=some r→Ends w0 h0 c0 D K r Q→code.wp P Q a w
 | .skip,_,Q,K,st,a,w,c,at_,hk,he=>wp_skip (he .normal st a w c at_ hk)
 | .region id ops draw,_,Q,K,st,a,w,c,at_,hk,he=>by
  simp only[kJ,regionF_eq]at hk;have go:Goes w c st a (fun yY=>K .normal yY) r (Q .normal):=fun a' w' yY c' s x d k=>he .normal yY a' w' c' ⟨s,at_.ext.trans x,d.trans at_.defers⟩ k
  cases draw with
  | true=>exact draw_sound T hm hE hk at_.iS go
  | false=>exact region_sound T hE hk at_.iS go
 | .seq x y,hl,Q,K,st,a,w,c,at_,hk,he=>by
  simp only[kJ]at hk;refine wp_seq (oq T hm hE hlen x (fun b hb=>hl b (by simp[az,hb])) _ _ st a w c at_ hk fun e yY a' w' c' at' vH => ?_);cases e with
  | normal=>exact oq T hm hE hlen y (fun b hb=>hl b (by simp[az,hb])) Q K yY a' w' c' at' vH he
  | exit i=>exact he (.exit i) yY a' w' c' at' vH
  | goto l=>exact he (.goto l) yY a' w' c' at' vH
  | ret=>exact he .ret yY a' w' c' at' vH
 | .cond cnd x y,hl,Q,K,st,a,w,c,at_,hk,he=>by
  simp only[kJ]at hk;split at hk <;> (try cases hk)
  ·rename_i t ht;have rc:=ev_rep at_.iS.fr cnd;rw[ht]at rc;generalize hv:a.eval cnd=v at rc;cases rc;refine wp_cond hv ?_;cases t with
   | true=>exact oq T hm hE hlen x (fun b hb=>hl b (by simp[az,hb])) Q K st a w c at_ hk he
   | false=>exact oq T hm hE hlen y (fun b hb=>hl b (by simp[az,hb])) Q K st a w c at_ hk he
  ·rename_i ht;have rc:=ev_rep at_.iS.fr cnd;rw[ht]at rc;generalize hv:a.eval cnd=v at rc;cases rc with
   | Su t =>
    refine wp_cond hv ?_;obtain ⟨h1,h2⟩:=anyT_some hk;cases t with
    | true=>exact oq T hm hE hlen x (fun b hb=>hl b (by simp[az,hb])) Q K st a w c at_ h1 he
    | false=>exact oq T hm hE hlen y (fun b hb=>hl b (by simp[az,hb])) Q K st a w c at_ h2 he
 | .block id x,hl,Q,K,st,a,w,c,at_,hk,he=>by
  simp only[kJ]at hk;refine wp_block (oq T hm hE hlen x (fun b hb=>hl b (by simp[az,hb])) _ _ st a w c at_ hk fun e yY a' w' c' at' vH => ?_);cases e with
  | normal=>exact he .normal yY a' w' c' at' vH
  | exit i =>
   simp only[Ex.out,Exit.inBlock];simp only at vH;split
   ·rename_i hi;rw[if_pos hi]at vH;exact he .normal yY a' w' c' at' vH
   ·rename_i hi;rw[if_neg hi]at vH;exact he (.exit i) yY a' w' c' at' vH
  | goto l=>exact he (.goto l) yY a' w' c' at' vH
  | ret=>exact he .ret yY a' w' c' at' vH
 | .loop x,hl,Q,K,st,a,w,c,at_,hk,he=>by
  have hx:∀b∈az x,gN tt E L h0.length b:=fun b hb=>hl b (by simp[az,hb])
  have main:∀(f g:St→St),(∀w st a c,At w0 h0 c0 D w st a c→∃c',At w0 h0 c0 D w (f st) a c')→(∀w st a c,At w0 h0 c0 D w st a c→∃c',At w0 h0 c0 D w (g st) a c') →
    ∀n st a w c,At w0 h0 c0 D w st a c→Kb (kJ tt E L h0.length x) f n st (fun e st=>K e (g st))=some r→(Code.loop x).wp P Q a w:=by
   intro f g hf hg n st a w c at_ hk;refine wp_rounds (fun n a w=>∃st c,At w0 h0 c0 D w st a c∧Kb (kJ tt E L h0.length x) f n st (fun e st=>K e (g st))=some r) (fun a w => ?_) (fun n a w => ?_) ⟨st,c,at_,hk⟩
   ·rintro ⟨st,c,_,hk⟩
    cases hk
   ·rintro ⟨st,c,at_,hk⟩
    simp only[Kb]at hk;refine oq T hm hE hlen x hx _ _ st a w c at_ hk fun e yY a' w' c' at' vH => ?_
    cases e with
    | normal =>
     obtain ⟨c2,at2⟩:=hf w' yY a' c' at';exact ⟨f yY,c2,at2,vH⟩
    | exit i=>obtain ⟨c2,at2⟩:=hg w' yY a' c' at'; exact he (.exit i) _ a' w' c2 at2 vH
    | goto l=>obtain ⟨c2,at2⟩:=hg w' yY a' c' at'; exact he (.goto l) _ a' w' c2 at2 vH
    | ret=>obtain ⟨c2,at2⟩:=hg w' yY a' c' at'; exact he .ret _ a' w' c2 at2 vH
  simp only[kJ]at hk;split at hk
  ·rename_i hint ls hL;have hnorm:∀w st a c,At w0 h0 c0 D w st a c→∃c',At w0 h0 c0 D w (norm h0.length hint st) a c':=fun w st a c at_=>by
    obtain ⟨c',s',x'⟩:=norm_sound at_.iS at_.ext hlen hint;exact ⟨c',s',x',at_.defers⟩
   have htrim:∀w st a c,At w0 h0 c0 D w st a c→∃c',At w0 h0 c0 D w (trim h0.length hint st) a c':=fun w st a c at_=>by
    obtain ⟨c',s',x'⟩:=trim_sound at_.iS at_.ext hlen hint;exact ⟨c',s',x',at_.defers⟩
   obtain ⟨n,hn⟩:=hl x (by simp[az]) hint ls hL _ _ _ hk;obtain ⟨c',at'⟩:=hnorm w st a c at_;exact main _ _ hnorm htrim n _ a w c' at' hn
  ·rw[iterK_eq]at hk;exact main id id (fun w st a c h=>⟨c,h⟩) (fun w st a c h=>⟨c,h⟩) 70 st a w c at_ hk
 | .exit id,_,Q,K,st,a,w,c,at_,hk,he=>wp_exit (he (.exit id) st a w c at_ hk)
 | .ret,_,Q,K,st,a,w,c,at_,hk,he=>wp_ret (he .ret st a w c at_ hk)
 | .label _,_,_,_,_,_,_,_,_,hk,_=>by simp[kJ]at hk
 | .goto _,_,_,_,_,_,_,_,_,hk,_=>by simp[kJ]at hk
 | .scope _,_,_,_,_,_,_,_,_,hk,_=>by simp[kJ]at hk
 | .refuse _,_,_,_,_,_,_,_,_,hk,_=>by simp[kJ]at hk
end
theorem TV (T:CU P tt) {st:St} {a:Act} (iS:TP w c st a):∀(rs:List ResultVar) {k:List V→Option R} {r:R},resK tt st rs k=some r →
  ∃vs ds,k vs=some r∧cz w st.hp c vs ds∧ds.length=rs.length∧(rs.mapM (m:=Sem) fun | .tmp t=>pure (a.tmps.getD t undef) | .cell b t=>do loadVar t (←asAddr (a.tmps.getD b undef))).run P w = .ok ds w
 | [],k,r,hk=>⟨[], [],hk, .nil,rfl,by simp⟩
 | .tmp t::rs,k,r,hk=>by
  simp only[resK]at hk;obtain ⟨vs,ds,h1,h2,h3,h4⟩:=TV T iS rs hk;refine ⟨_,a.tmps.getD t undef::ds,h1, .cons ?_ h2,by simp[h3],?_⟩
  ·have:=iS.fr.getD t undef;simpa [List.getD,Array.getD_eq_getD_getElem?]using this
  ·simp only[List.mapM_cons,Sem.run_bind,Sem.run_pure,Result.andThen_ok,h4]
 | .cell b t::rs,k,r,hk=>by
  simp only[resK]at hk;split at hk <;> (try cases hk);rename_i i o hp;split at hk <;> (try cases hk);rename_i cs FN;have hl:=load_sound (P:=P) T iS.wf (t:=t) (a := .ptr i o) (a':=a.tmps.getD b undef) (lim:=none) (k:=fun v=>resK tt st rs fun vs=>k (v::vs)) (r:=r) (by
    have:=iS.fr.getD b undef;rw[hp]at this;simpa [List.getD,Array.getD_eq_getD_getElem?]using this) (by simp only[Pb,if_true,FN]; exact hk)
  obtain ⟨v,v',g1,g2,g3⟩:=hl;obtain ⟨vs,ds,h1,h2,h3,h4⟩:=TV T iS rs g3;refine ⟨_,v'::ds,h1, .cons g2 h2,by simp[h3],?_⟩;have hb:(do loadVar t (←asAddr (a.tmps.getD b undef)):Sem Value).run P w = .ok v' w:=by
   have rb:=iS.fr.getD b undef;rw[hp]at rb;have e:a.tmps.toList.getD b undef=a.tmps.getD b undef:=by simp[List.getD,Array.getD_eq_getD_getElem?]
   rw[e]at rb;generalize a.tmps.getD b undef=q at rb g1;cases rb with
   | ptr hu hv =>
    obtain ⟨b',rfl,_⟩:=hv;simpa [Instr.loadAt,Instr.sureAddr,asAddr]using g1
  simp only[List.mapM_cons,Sem.run_bind,hb,Sem.run_pure,Result.andThen_ok,h4]
theorem finishK_sound {w0:World} {h0:aN} {c0:j8} {ts:List Nat} {Ar:Bool} {vs:List V} {ds:List Value} (wf:WF w h c) (r:cz w h c vs ds) (x:Ext w0 h0 c0 w h c) (hm:h0.length≤200) (hts:ts.length=ds.length) {k:V→aN→Option R} {q:R}
  (hk:ZL tt ts h0.length Ar vs h k=some q):∃v h' c',WF w h' c'∧Ext w0 h0 c0 w h' c'∧dx w h' c' v (if h:ds.length=1 then ds[0]else .tuple ds.toArray)∧k v h'=some q:=by
 unfold ZL at hk;have main:∀(ws:List V) (h1:aN),WF w h1 c→cz w h1 c ws ds→Ext w0 h0 c0 w h1 c →
   ∀ord:List Nat,ord.Nodup→(∀i,i<h0.length→ord[i]? = some i∨∃j,h1.length≤j∧ord[i]? = some j) →
   k (match V.EY (EL ord) ws with | [v]=>v|l => .tuple l) (h1.pick ord)=some q →
   ∃v h' c',WF w h' c'∧Ext w0 h0 c0 w h' c'∧dx w h' c' v (if h:ds.length=1 then ds[0]else .tuple ds.toArray)∧k v h'=some q:=by
  intro ws h1 wf1 r1 x1 ord g1 g2 hk;have rr:=SV (ord:=ord) r1;refine ⟨_,_,_,Vw wf1 g1,pick_ext' x1 g2,?_,hk⟩;have hlen:=rr.1;generalize V.EY (EL ord) ws=us at rr hlen;split
  ·rename_i v;have h1:ds.length=1:=by simpa using hlen.symm
   rw[dif_pos h1];exact rr.2 0 v _ rfl (List.getElem?_eq_getElem _)
  ·rename_i jW;have h1:¬ds.length=1:=fun e=>by
    rw[e]at hlen
    match us,hlen with
    | [v],_=>exact jW v rfl
   rw[dif_neg h1];exact .tuple (by simpa using hlen) fun j v d hv hd=>rr.2 j v d hv (by simpa using hd)
 have hrr:=fun (h1:aN) (ws:List V)=>Ym h1 (m:=h0.length) (n:=256) (by omega) (V.yr ws)
 cases Ar with
 | true =>
  simp only[if_true,Bool.true_and]at hk;cases he:(V.yr vs).isEmpty with
  | true =>
   rw[he]at hk;obtain ⟨g1,g2⟩:=rebirth_spec (h:=h) (hrr h vs).1 (hrr h vs).2;exact main vs h wf r x _ g1 g2 hk
  | false =>
   rw[he]at hk;exact main vs h wf r x _ (hrr h vs).1 (fun i hi => .inl ((hrr h vs).2 i hi)) hk
 | false =>
  simp only[Bool.false_eq_true,if_false,Bool.false_and,cond_false]at hk;exact main _ _ (Kg _ _ wf) (canonL_rep ts _ ds hts (shutL_rep wf r)) (x.trans (HH _ _)) _ (hrr _ _).1 (fun i hi => .inl ((hrr _ _).2 i hi)) hk
theorem funK_sound (T:CU P tt) (hm:P.follows .mixedOrders=true) {E:Env R} (hE:EOk P E) {L:Nat→Option (Hint×cQ R)} {g:Nat} {fn:Func} {code:Code} {Ar:Bool} (hf:P.funcs[g]? = some fn) (hb:fn.body=some code)
  (hn:(fn.name == "runtime.NumGoroutine")=false) (hr:fn.results.size=fn.resultTypes.size) (m:Nat) (hl:∀a∈az code,gN tt E L m a):Spec.OkAt P g m (funK tt E L Ar fn code):=by
 refine Spec.OkAt.of_body hf hn (by rw[hb]; rfl) fun vs h k r hml hk w c args wf ra => ?_
 subst hml;refine calls_of_wp hf hb ?_;unfold funK at hk;split at hk
 ·cases hk
 rename_i h200;have hlen:h.length≤200:=by omega
 have hfr:cz w h c (vs++List.replicate (fn.ntmps - vs.length) .undef) (args++Array.replicate (fn.ntmps - args.size) undef).toList:=by
  have e:vs.length=args.size:=by simpa using ra.1
  rw[e];simpa using ra.append (cz.Y0 (fn.ntmps - args.size) undef)
 refine oq T hm hE (w0:=w) (h0:=h) (c0:=c) (D := []) hlen code hl _ _ _ _ w c ⟨⟨wf,hfr⟩, .refl _ _ _,rfl⟩ hk fun e st a w' c' at' vH => ?_
 have fin:resK tt st fn.results.toList (fun vs=>ZL tt fn.resultTypes.toList h.length Ar vs st.hp k)=some r →
   a.defers = []∧∃v,(results fn a.tmps).run P w' = .ok v w'∧∃d,Ending.returned v=Ending.returned d∧∃u h' c',WF w' h' c'∧Ext w h c w' h' c'∧dx w' h' c' u d∧k u h'=some r:=by
  intro hk;obtain ⟨vs,ds,g1,g2,g3,g4⟩:=TV T at'.iS _ hk;obtain ⟨u,h',c2,k1,k2,k3,k4⟩:=finishK_sound at'.iS.wf g2 at'.ext hlen (by simp[g3,hr]) g1;refine ⟨at'.defers,_,?_,_,rfl,u,h',c2,k1,k2,k3,k4⟩;unfold results;simp only[Sem.run_bind,Array.mapM_eq_mapM_toList,map_eq_pure_bind,Sem.run_pure];refine (congrArg (fun z:Result (List Value)=>(z.andThen fun a w'=>Result.ok a.toArray w').andThen fun a w'=>Result.ok (if h:a.size=1 then a[0]else Value.tuple a) w') g4).trans ?_;simp
 cases e with
 | normal=>exact fin vH
 | ret=>exact fin vH
 | exit i=>cases vH
 | goto l=>cases vH
end
inductive fj where
 | undef|iJ|bB|fG|ql|dK|iface
 | TA (t:Nat) (k:IntKind) (n:Int)
 | int (k:IntKind)|bool|str
 | ptr (i o:Nat)
 | sl (T:Ty)|TW (T:Ty) (i:Nat)
 | row (i:Nat)
 | map (i:Nat)
 | fn (f:Nat)
 deriving DecidableEq
def fj.den:fj→Type
 | .int _=>Int
 | .bool=>Bool
 | .str=>ae
 | .sl T=>List T.den
 | .TW T _=>List T.den
 | .row _=>Nat
 | _=>Unit
def fj.enc:(p:fj)→p.den→V
 | .undef,_ => .undef
 | .iJ,_ => .iJ
 | .bB,_ => .bB
 | .fG,_ => .fG
 | .ql,_ => .ql
 | .dK,_ => .dK
 | .iface,_ => .iface
 | .TA t k n,_ => .TA t k n
 | .int k,(n:Int) => .int k n
 | .bool,(b:Bool) => .bool b
 | .str,(s:ae) => .str s
 | .ptr i o,_ => .ptr i o
 | .sl T,(l:List T.den) => .sl T l .no
 | .TW T i,(l:List T.den) => .sl T l (.own i)
 | .row i,(n:Nat) => .row i n
 | .map i,_ => .map i
 | .fn f,_ => .func f [] []
def decIx (k:IntKind):V→Option Int | .int k' n=>if k'=k then some n else none|_=>none
def decBx:V→Option Bool | .bool b=>some b|_=>none
def decSx:V→Option ae | .str s=>some s|_=>none
def decLx (T:Ty):V→Option (List T.den) | .sl T' l .no=>if h:T'=T then some (h▸l)else none|_=>none
def decOx (T:Ty) (i:Nat):V→Option (List T.den) | .sl T' l (.own j)=>if h:T'=T then (if j=i then some (h▸l)else none)else none|_=>none
def decRx (i:Nat):V→Option Nat | .row j n=>if j=i then some n else none|_=>none
def decPx (i o:Nat):V→Option Unit | .ptr j q=>if j=i∧q=o then some ()else none|_=>none
def decMx (i:Nat):V→Option Unit | .map j=>if j=i then some ()else none|_=>none
def decFx (f:Nat):V→Option Unit | .func g [] []=>if g=f then some ()else none|_=>none
def decUx:V→Option Unit | .undef=>some ()|_=>none
def decNp:V→Option Unit | .iJ=>some ()|_=>none
def decNs:V→Option Unit | .bB=>some ()|_=>none
def decNf:V→Option Unit | .fG=>some ()|_=>none
def decNm:V→Option Unit | .ql=>some ()|_=>none
def decNi:V→Option Unit | .dK=>some ()|_=>none
def decIf:V→Option Unit | .iface=>some ()|_=>none
def decIi (t:Nat) (k:IntKind) (n:Int):V→Option Unit | .TA t' k' n'=>if t'=t∧k'=k∧n'=n then some ()else none|_=>none
theorem decIx_eq {k:IntKind} {v:V} {x:Int} (h:decIx k v=some x):v = .int k x:=by
 unfold decIx at h;split at h
 ·split at h
  ·rename_i e; subst e; cases h; rfl
  ·cases h
 ·cases h
theorem decBx_eq {v:V} {x:Bool} (h:decBx v=some x):v = .bool x:=by unfold decBx at h; split at h <;> first|(cases h; rfl)|cases h
theorem decSx_eq {v:V} {x:ae} (h:decSx v=some x):v = .str x:=by unfold decSx at h; split at h <;> first|(cases h; rfl)|cases h
theorem decLx_eq {T:Ty} {v:V} {x:List T.den} (h:decLx T v=some x):v = .sl T x .no:=by
 unfold decLx at h;split at h
 ·split at h
  ·rename_i e; subst e; cases h; rfl
  ·cases h
 ·cases h
theorem decOx_eq {T:Ty} {i:Nat} {v:V} {x:List T.den} (h:decOx T i v=some x):v = .sl T x (.own i):=by
 unfold decOx at h;split at h
 ·split at h
  ·rename_i e;subst e;split at h
   ·rename_i e; subst e; cases h; rfl
   ·cases h
  ·cases h
 ·cases h
theorem decRx_eq {i:Nat} {v:V} {x:Nat} (h:decRx i v=some x):v = .row i x:=by
 unfold decRx at h;split at h
 ·split at h
  ·rename_i e; subst e; cases h; rfl
  ·cases h
 ·cases h
theorem decPx_eq {i o:Nat} {v:V} {x:Unit} (h:decPx i o v=some x):v = .ptr i o:=by
 unfold decPx at h;split at h
 ·split at h
  ·rename_i e; obtain ⟨rfl,rfl⟩:=e; rfl
  ·cases h
 ·cases h
theorem decMx_eq {i:Nat} {v:V} {x:Unit} (h:decMx i v=some x):v = .map i:=by
 unfold decMx at h;split at h
 ·split at h
  ·rename_i e; subst e; rfl
  ·cases h
 ·cases h
theorem decFx_eq {f:Nat} {v:V} {x:Unit} (h:decFx f v=some x):v = .func f [] []:=by
 unfold decFx at h;split at h
 ·split at h
  ·rename_i e; subst e; rfl
  ·cases h
 ·cases h
theorem decUx_eq {v:V} {x:Unit} (h:decUx v=some x):v = .undef:=by unfold decUx at h; split at h <;> first|rfl|cases h
theorem decNp_eq {v:V} {x:Unit} (h:decNp v=some x):v = .iJ:=by unfold decNp at h; split at h <;> first|rfl|cases h
theorem decNs_eq {v:V} {x:Unit} (h:decNs v=some x):v = .bB:=by unfold decNs at h; split at h <;> first|rfl|cases h
theorem decNf_eq {v:V} {x:Unit} (h:decNf v=some x):v = .fG:=by unfold decNf at h; split at h <;> first|rfl|cases h
theorem decNm_eq {v:V} {x:Unit} (h:decNm v=some x):v = .ql:=by unfold decNm at h; split at h <;> first|rfl|cases h
theorem decIf_eq {v:V} {x:Unit} (h:decIf v=some x):v = .iface:=by unfold decIf at h; split at h <;> first|rfl|cases h
theorem decIi_eq {t:Nat} {k:IntKind} {n:Int} {v:V} {x:Unit} (h:decIi t k n v=some x):v = .TA t k n:=by
 unfold decIi at h;split at h
 ·split at h
  ·rename_i e; obtain ⟨rfl,rfl,rfl⟩:=e; rfl
  ·cases h
 ·cases h
theorem decNi_eq {v:V} {x:Unit} (h:decNi v=some x):v = .dK:=by unfold decNi at h; split at h <;> first|rfl|cases h
def fj.dec:(p:fj)→V→Option p.den
 | .undef=>decUx
 | .iJ=>decNp
 | .bB=>decNs
 | .fG=>decNf
 | .ql=>decNm
 | .dK=>decNi
 | .iface=>decIf
 | .TA t k n=>decIi t k n
 | .int k=>decIx k
 | .bool=>decBx
 | .str=>decSx
 | .ptr i o=>decPx i o
 | .sl T=>decLx T
 | .TW T i=>decOx T i
 | .row i=>decRx i
 | .map i=>decMx i
 | .fn f=>decFx f
theorem fj.TX (p:fj) {v:V} {x:p.den} (h:p.dec v=some x):v=p.enc x:=by
 cases p
 ·exact decUx_eq h
 ·exact decNp_eq h
 ·exact decNs_eq h
 ·exact decNf_eq h
 ·exact decNm_eq h
 ·exact decNi_eq h
 ·exact decIf_eq h
 ·exact decIi_eq h
 ·exact decIx_eq h
 ·exact decBx_eq h
 ·exact decSx_eq h
 ·exact decPx_eq h
 ·exact decLx_eq h
 ·exact decOx_eq h
 ·exact decRx_eq h
 ·exact decMx_eq h
 ·exact decFx_eq h
def fj.bT:List fj→Type
 | []=>Unit
 | p::ps=>p.den×fj.bT ps
def fj.fv:(ps:List fj)→fj.bT ps→List V
 | [],_ => []
 | p::ps,(x:p.den×fj.bT ps)=>p.enc x.1::fj.fv ps x.2
def both {α β:Type}:Option α→Option β→Option (α×β)
 | some x,some y=>some (x,y)
 | _,_=>none
theorem ZT {α β:Type} {a:Option α} {b:Option β} {z:α×β} (h:both a b=some z):a=some z.1∧b=some z.2:=by
 cases a <;> cases b <;> cases h;exact ⟨rfl,rfl⟩
def fj.NA:(ps:List fj)→List V→Option (fj.bT ps)
 | [], []=>some ()
 | [],_::_=>none
 | _::_, []=>none
 | p::ps,v::vs=>both (p.dec v) (fj.NA ps vs)
theorem fj.yw:∀(ps:List fj) {vs:List V} {x:fj.bT ps},fj.NA ps vs=some x→vs=fj.fv ps x
 | [], [],_,_=>rfl
 | [],_::_,_,h=>by cases h
 | _::_, [],_,h=>by cases h
 | p::ps,v::vs,x,h=>by
  obtain ⟨h1,h2⟩:=ZT (a:=p.dec v) (b:=fj.NA ps vs) h;show v::vs=p.enc x.1::fj.fv ps x.2;rw[←fj.TX p h1,←fj.yw ps h2]
inductive cU where
 | leaf (l:fj)
 | agg (ps:List fj)
 | func (f:Nat) (a b:List fj)
def cU.den:cU→Type
 | .leaf l=>l.den
 | .agg ps=>fj.bT ps
 | .func _ a b=>fj.bT a×fj.bT b
def cU.enc:(p:cU)→p.den→V
 | .leaf l,x=>l.enc x
 | .agg ps,x => .agg (fj.fv ps x)
 | .func f a b,(x:fj.bT a×fj.bT b) => .func f (fj.fv a x.1) (fj.fv b x.2)
def decAx (ps:List fj):V→Option (fj.bT ps) | .agg cs=>fj.NA ps cs|_=>none
def decFnx (f:Nat) (a b:List fj):V→Option (fj.bT a×fj.bT b) | .func g x y=>if g=f then both (fj.NA a x) (fj.NA b y)else none|_=>none
def cU.dec:(p:cU)→V→Option p.den
 | .leaf l=>l.dec
 | .agg ps=>decAx ps
 | .func f a b=>decFnx f a b
theorem cU.TX (p:cU) {v:V} {x:p.den} (h:p.dec v=some x):v=p.enc x:=by
 cases p with
 | leaf l=>exact fj.TX l h
 | agg ps =>
  replace h:decAx ps v=some x:=h
  unfold decAx at h;split at h
  ·rename_i cs;show V.agg cs = .agg (fj.fv ps x);rw[←fj.yw ps h]
  ·cases h
 | func f a b =>
  replace h:decFnx f a b v=some x:=h
  unfold decFnx at h;split at h
  ·split at h
   ·rename_i e;subst e;obtain ⟨h1,h2⟩:=ZT h;rename_i g p q;show V.func g p q = .func g (fj.fv a x.1) (fj.fv b x.2);rw[←fj.yw a h1,←fj.yw b h2]
   ·cases h
  ·cases h
def cU.bT:List cU→Type
 | []=>Unit
 | p::ps=>p.den×cU.bT ps
def cU.fv:(ps:List cU)→cU.bT ps→List V
 | [],_ => []
 | p::ps,(x:p.den×cU.bT ps)=>p.enc x.1::cU.fv ps x.2
def cU.NA:(ps:List cU)→List V→Option (cU.bT ps)
 | [], []=>some ()
 | [],_::_=>none
 | _::_, []=>none
 | p::ps,v::vs=>both (p.dec v) (cU.NA ps vs)
theorem cU.yw:∀(ps:List cU) {vs:List V} {x:cU.bT ps},cU.NA ps vs=some x→vs=cU.fv ps x
 | [], [],_,_=>rfl
 | [],_::_,_,h=>by cases h
 | _::_, [],_,h=>by cases h
 | p::ps,v::vs,x,h=>by
  obtain ⟨h1,h2⟩:=ZT (a:=p.dec v) (b:=cU.NA ps vs) h;show v::vs=p.enc x.1::cU.fv ps x.2;rw[←cU.TX p h1,←cU.yw ps h2]
inductive aU where
 | free|dead|tok|iter
 | cells (ps:List fj)
 | row (T:Ty)
 | mZ (p:fj)
 | Bs (K T:Ty)
def aU.den:aU→Type
 | .cells ps=>fj.bT ps
 | .row T=>List T.den
 | .mZ p=>p.den
 | .Bs K T=>List (K.den×T.den)
 | .iter=>ae×Nat
 | _=>Unit
def aU.enc:(p:aU)→p.den→cb
 | .free,_ => .free
 | .dead,_ => .dead
 | .tok,_ => .tok
 | .iter,x => .iter (Prod.fst (α:=ae) (β:=Nat) x) (Prod.snd (α:=ae) (β:=Nat) x)
 | .cells ps,x => .cells (fj.fv ps x)
 | .row T,x => .row T x
 | .mZ p,x => .mZ (p.enc x)
 | .Bs K T,x => .Bs K T x
def decBl (p:fj):cb→Option p.den | .mZ v=>p.dec v|_=>none
def decCx (ps:List fj):cb→Option (fj.bT ps) | .cells cs=>fj.NA ps cs|_=>none
def decWx (T:Ty):cb→Option (List T.den) | .row T' l=>if h:T'=T then some (h▸l)else none|_=>none
def decAm (K T:Ty):cb→Option (List (K.den×T.den)) | .Bs K' T' l=>if h:K'=K∧T'=T then some (h.1▸h.2▸l)else none|_=>none
def decHf:cb→Option Unit | .free=>some ()|_=>none
def decHd:cb→Option Unit | .dead=>some ()|_=>none
def decHi:cb→Option (ae×Nat) | .iter s p=>some (s,p)|_=>none
def decHt:cb→Option Unit | .tok=>some ()|_=>none
def aU.dec:(p:aU)→cb→Option p.den
 | .free=>decHf
 | .dead=>decHd
 | .tok=>decHt
 | .iter=>decHi
 | .cells ps=>decCx ps
 | .row T=>decWx T
 | .mZ p=>decBl p
 | .Bs K T=>decAm K T
theorem aU.TX (p:aU) {o:cb} {x:p.den} (h:p.dec o=some x):o=p.enc x:=by
 cases p with
 | free=>replace h:decHf o=some x:=h; unfold decHf at h; split at h <;> first|rfl|cases h
 | dead=>replace h:decHd o=some x:=h; unfold decHd at h; split at h <;> first|rfl|cases h
 | tok=>replace h:decHt o=some x:=h; unfold decHt at h; split at h <;> first|rfl|cases h
 | iter=>replace h:decHi o=some x:=h; unfold decHi at h; split at h <;> first|(cases h; rfl)|cases h
 | cells ps =>
  replace h:decCx ps o=some x:=h
  unfold decCx at h;split at h
  ·rename_i cs;show cb.cells cs = .cells (fj.fv ps x);rw[←fj.yw ps h]
  ·cases h
 | mZ p =>
  replace h:decBl p o=some x:=h
  unfold decBl at h;split at h
  ·rename_i v;show cb.mZ v = .mZ (p.enc x);rw[←fj.TX p h]
  ·cases h
 | Bs K T =>
  replace h:decAm K T o=some x:=h
  unfold decAm at h;split at h
  ·split at h
   ·rename_i e; obtain ⟨rfl,rfl⟩:=e; cases h; rfl
   ·cases h
  ·cases h
 | row T =>
  replace h:decWx T o=some x:=h
  unfold decWx at h;split at h
  ·split at h
   ·rename_i e; subst e; cases h; rfl
   ·cases h
  ·cases h
def aU.bT:List aU→Type
 | []=>Unit
 | p::ps=>p.den×aU.bT ps
def aU.fv:(ps:List aU)→aU.bT ps→aN
 | [],_ => []
 | p::ps,(x:p.den×aU.bT ps)=>p.enc x.1::aU.fv ps x.2
def aU.NA:(ps:List aU)→List cb→Option (aU.bT ps)
 | [], []=>some ()
 | [],_::_=>none
 | _::_, []=>none
 | p::ps,v::vs=>both (p.dec v) (aU.NA ps vs)
theorem aU.yw:∀(ps:List aU) {vs:List cb} {x:aU.bT ps},aU.NA ps vs=some x→vs=aU.fv ps x
 | [], [],_,_=>rfl
 | [],_::_,_,h=>by cases h
 | _::_, [],_,h=>by cases h
 | p::ps,v::vs,x,h=>by
  obtain ⟨h1,h2⟩:=ZT (a:=p.dec v) (b:=aU.NA ps vs) h;show v::vs=p.enc x.1::aU.fv ps x.2;rw[←aU.TX p h1,←aU.yw ps h2]
theorem aU.encL_len:∀(ps:List aU) (x:aU.bT ps),(aU.fv ps x).length=ps.length
 | [],_=>rfl
 | p::ps,x=>by
  show (p.enc x.1::aU.fv ps x.2).length=_;simp[aU.encL_len ps]
section
variable {R:Type} {P:Program} {tt:dn}
def aG (ps:List cU) (hs:List aU) (run:cU.bT ps→aU.bT hs→(V→aN→Option R)→Option R) (other:Spec R):Spec R:=fun args h k =>
 match cU.NA ps args,aU.NA hs h with
 | some x,some y=>run x y k
 | _,_=>other args h k
def av:Spec R:=fun _ _ _=>none
theorem ie (g:Nat):Spec.Ok P g (av:Spec R):=by intro vs h k r hk; cases hk
theorem specBy_ok {g:Nat} {ps:List cU} {hs:List aU} {run:cU.bT ps→aU.bT hs→(V→aN→Option R)→Option R} {other own:Spec R} (ho:Spec.Ok P g other) (hw:Spec.OkAt P g hs.length own)
  (hr:∀x y k,own (cU.fv ps x) (aU.fv hs y) k=run x y k):Spec.Ok P g (aG ps hs run other):=by
 intro vs h k r hk;unfold aG at hk;split at hk
 ·rename_i x y h1 h2;rw[cU.yw ps h1,aU.yw hs h2];rw[←hr]at hk;exact hw _ _ _ _ (aU.encL_len hs y) hk
 ·exact ho _ _ _ _ hk
def cM (ps:List cU) (hs:List aU) (run:cU.bT ps→aU.bT hs→(Ex→St→Option R)→Option R) (other:cQ R):cQ R:=fun st K =>
 match cU.NA ps st.fr,aU.NA hs st.hp with
 | some x,some y=>run x y K
 | _,_=>other st K
def iK:cQ R:=fun _ _=>none
def hG (tt:dn) (E:Env R) (L:Nat→Option (Hint×cQ R)) (m:Nat) (a:Code) (hint:Hint) (ls:cQ R):Prop :=
 ∀st (K:Ex→St→Option R) r,ls st K=some r→∃n,Kb (kJ tt E L m a) (norm m hint) n st (fun e st=>K e (trim m hint st))=some r
theorem dy {E:Env R} {L:Nat→Option (Hint×cQ R)} {m:Nat} {a:Code} {hint:Hint}:hG tt E L m a hint iK:=by intro st K r hk; cases hk
theorem loopBy_ok {E:Env R} {L:Nat→Option (Hint×cQ R)} {m:Nat} {a:Code} {hint:Hint} {ps:List cU} {hs:List aU} {run:cU.bT ps→aU.bT hs→(Ex→St→Option R)→Option R} {other:cQ R} (ho:hG tt E L m a hint other)
  (hr:∀x y K,∃n,Kb (kJ tt E L m a) (norm m hint) n ⟨cU.fv ps x,aU.fv hs y⟩ (fun e st=>K e (trim m hint st))=run x y K):hG tt E L m a hint (cM ps hs run other):=by
 intro st K r hk;obtain ⟨fr,hp⟩:=st;unfold cM at hk;simp only at hk;split at hk
 ·rename_i x y h1 h2;rw[cU.yw ps h1,aU.yw hs h2];obtain ⟨n,hn⟩:=hr x y K;exact ⟨n,by rw[hn]; exact hk⟩
 ·exact ho _ _ _ hk
def aX (f:Func):Code:=f.body.getD .skip
theorem fb {E:Env R} {L:Nat→Option (Hint×cQ R)} {m:Nat} {l:List Code} (n:Nat) (hn:l.length=n) (h:∀i,i<n→gN tt E L m (l.getD i .skip)):∀a∈l,gN tt E L m a:=by
 intro a ha;obtain ⟨i,hi,rfl⟩:=List.mem_iff_getElem.1 ha;have:=h i (by omega);simpa [List.getD,List.getElem?_eq_getElem hi]using this
theorem cA {E:Env R} {L:Nat→Option (Hint×cQ R)} {m:Nat} {a:Code} {hint:Hint} {ls:cQ R} (h:L (keyOf a)=some (hint,ls)) (hs:hG tt E L m a hint ls):gN tt E L m a:=by
 intro hint' ls' hl;rw[h]at hl;cases hl;exact hs
def roundOf (tt:dn) (E:Env R) (L:Nat→Option (Hint×cQ R)) (m:Nat) (a:Code) (hint:Hint) (st:St) (dJ:St→Option R) (K:Ex→St→Option R):Option R :=
 kJ tt E L m a st fun e yY=>match e with | .normal=>dJ (norm m hint yY)|e=>K e (trim m hint yY)
theorem loopN_succ {E:Env R} {L:Nat→Option (Hint×cQ R)} {m:Nat} {a:Code} {hint:Hint} {n:Nat} {st:St} {K:Ex→St→Option R} :
  Kb (kJ tt E L m a) (norm m hint) (n+1) st (fun e st=>K e (trim m hint st))=roundOf tt E L m a hint st (fun st=>Kb (kJ tt E L m a) (norm m hint) n st (fun e st=>K e (trim m hint st))) K:=by
 unfold roundOf;simp only[Kb];congr 1
end
section
variable {P:Program} {tt:dn} {w:World} {h:aN} {c:j8}
theorem zero_rep:∀l:List Value,cz w h c (l.map ofConst) l
 | [] => .nil
 | v::l => .cons (Ya v) (zero_rep l)
def zeroOf (i:TypeInfo):Option (Nat×List V×Bool):=i.zero.map fun z=>(z.cells.size,z.cells.toList.map ofConst,z.oneCell')
def NB (P:Program) (tt:dn) (t:Nat):Prop :=
 ∃i,P.info? t=some i∧i.size=(tt.at t).size∧i.bytes=(tt.at t).bytes∧zeroOf i=some ((tt.at t).size,(tt.at t).zero, !tt.isAgg t)
theorem NB.spec {t:Nat} (h:NB P tt t):∃i z,P.info? t=some i∧i.size=(tt.at t).size∧i.bytes=(tt.at t).bytes∧i.zero=some z∧z.cells.size=i.size ∧
  ∀(w:World) (h:aN) (c:j8),cz w h c (tt.at t).zero z.cells.toList:=by
 obtain ⟨i,h1,h2,h3,h4⟩:=h;unfold zeroOf at h4;cases hz:i.zero with
 | none=>rw[hz]at h4; cases h4
 | some z =>
  rw[hz]at h4;simp only[Option.map_some,Option.some.injEq,Prod.mk.injEq]at h4;refine ⟨i,z,h1,h2,h3,hz,by rw[h4.1,h2],fun w h c => ?_⟩;rw[←h4.2.1];exact zero_rep _
theorem NB.one {t:Nat} (h:NB P tt t):∀i z,P.info? t=some i→i.zero=some z→z.oneCell' = !tt.isAgg t:=by
 intro i z hi hz;obtain ⟨j,h1,h2,h3,h4⟩:=h;rw[hi]at h1; cases h1;unfold zeroOf at h4;rw[hz]at h4;simp only[Option.map_some,Option.some.injEq,Prod.mk.injEq]at h4;exact h4.2.2
theorem u8s_of (h:(List.range tt.length).all (fun e=>match (tt.at e).ty with|some (.int .u8)=>Nat.beq e pW.u8|_=>true)=true):∀e,(tt.at e).ty=some (.int .u8)→e=pW.u8:=by
 intro e he;by_cases hl:e<tt.length
 ·have:=List.all_eq_true.1 h e (by simpa using hl);rw[he]at this;exact Nat.eq_of_beq_eq_true this
 ·have:tt.at e=TI.none:=by unfold dn.at; simp[List.getD,List.getElem?_eq_none (Nat.le_of_not_lt hl)]
  rw[this]at he; cases he
def bldOk (tt:dn) (t:Nat):Bool:=Nat.beq t pW.mZ&&tt.ok t&&(match (tt.at t).zero with | [.iJ, .bB]=>true|_=>false)
theorem blds_of (h:(List.range tt.length).all (fun t=>bif (tt.at t).mZ then bldOk tt t else true)=true):∀t,(tt.at t).mZ=true→t=pW.mZ∧(tt.at t).zero = [.iJ, .bB]∧tt.ok t=true:=by
 intro t ht;by_cases hl:t<tt.length
 ·have:=List.all_eq_true.1 h t (by simpa using hl);rw[ht]at this;simp only[cond_true,bldOk,Bool.and_eq_true]at this;obtain ⟨⟨h1,h2⟩,h3⟩:=this;refine ⟨Nat.eq_of_beq_eq_true h1,?_,h2⟩;split at h3
  ·assumption
  ·cases h3
 ·have:tt.at t=TI.none:=by unfold dn.at; simp[List.getD,List.getElem?_eq_none (Nat.le_of_not_lt hl)]
  rw[this]at ht; cases ht
end
section
variable {P:Program} {tt:dn} {w:World} {h:aN} {c:j8}
def Scal (P:Program) (ty:TypeId) (z:V):Prop :=
 (∃k n,z = .int k n∧P.underlying ty=some (.int k))∨(∃s,z = .str s∧P.underlying ty=some .string)∨(∃b,z = .bool b∧P.underlying ty=some .bool)
theorem R6 {ty:TypeId} {z:V} (s:Scal P ty z) {xs:Array Value} {j:Nat} {x:Value} (hx:xs[j]? = some x):(part ty xs j).run P w = .ok x w:=by
 rcases s with ⟨k,n,_,hu⟩|⟨n,_,hu⟩|⟨n,_,hu⟩ <;> simp[part,Go.isAgg,run_underlying hu,hx]
theorem eqF (d:Nat) (xs ys:Array Value):∀(fs:List Field) (zs cs ds:List V) (j:Nat) (b:Bool),(∀i f z,fs[i]? = some f→zs[i]? = some z→f.name ≠ "_" ∧ f.offset=j+i∧Scal P f.type z)→fs.length=zs.length →
  fi zs cs=true→fi zs ds=true→lO cs ds=some b→(∀i v,cs[i]? = some v→∃x,xs[j+i]? = some x∧dx w h c v x)→(∀i v,ds[i]? = some v→∃x,ys[j+i]? = some x∧dx w h c v x) →
  (Op.eqFields (d+1) xs ys fs).run P w = .ok b w
 | [],zs,cs,ds,j,b,_,hl,hc,hd,he,_,_=>by
  have:zs = []:=List.eq_nil_of_length_eq_zero hl.symm;subst this;cases cs with
  | cons=>cases hc
  | nil =>
   cases ds with
   | cons=>cases hd
   | nil=>cases he; simp[Op.eqFields]
 | f::fs, [],_,_,_,_,_,hl,_,_,_,_,_=>by cases hl
 | f::fs,z::zs,cs,ds,j,b,hf,hl,hc,hd,he,hx,hy=>by
  obtain ⟨h1,h2,h3⟩:=hf 0 f z rfl rfl;have hf':∀i g y,fs[i]? = some g→zs[i]? = some y→g.name ≠ "_" ∧ g.offset=(j+1)+i∧Scal P g.type y:=fun i g y hg hy=>by
   have:=hf (i+1) g y (by simpa using hg) (by simpa using hy);exact ⟨this.1,by omega,this.2.2⟩
  have hl':fs.length=zs.length:=by simpa using hl
  cases cs with
  | nil=>cases z <;> cases hc
  | cons c0 cs =>
   cases ds with
   | nil=>cases z <;> cases hd
   | cons d0 ds =>
    obtain ⟨x,hx0,rx⟩:=hx 0 c0 rfl;obtain ⟨y,hy0,ry⟩:=hy 0 d0 rfl;have hx':∀i v,cs[i]? = some v→∃x,xs[(j+1)+i]? = some x∧dx w h c v x:=fun i v hv=>by
     obtain ⟨x,q1,q2⟩:=hx (i+1) v (by simpa using hv);exact ⟨x,by rw[←q1]; congr 1; omega,q2⟩
    have hy':∀i v,ds[i]? = some v→∃x,ys[(j+1)+i]? = some x∧dx w h c v x:=fun i v hv=>by
     obtain ⟨x,q1,q2⟩:=hy (i+1) v (by simpa using hv);exact ⟨x,by rw[←q1]; congr 1; omega,q2⟩
    have p1:=R6 (w:=w) h3 hx0;have p2:=R6 (w:=w) h3 hy0;have fin:∀(r:Bool),(Op.equalIn (d+1) f.type x y).run P w = .ok r w→∀b',lO cs ds=some b'→fi zs cs=true→fi zs ds=true→b=(r&&b')→(Op.eqFields (d+1) xs ys (f::fs)).run P w = .ok b w:=by
     intro r hr b' pX kc kd hb;subst hb;have ih:=eqF d xs ys fs zs cs ds (j+1) b' hf' hl' kc kd pX hx' hy';simp only[Op.eqFields,h1,ne_eq,not_false_eq_true,if_true,Sem.run_bind,h2,Nat.add_zero,p1,p2,Result.andThen_ok,hr];simp only[Nat.add_zero]at p1 p2;simp only[p1,p2,Result.andThen_ok,hr];cases r with
     | true=>simpa using ih
     | false=>simp
    rcases h3 with ⟨k,n,rfl,hu⟩|⟨s,rfl,hu⟩|⟨q,rfl,hu⟩
    ·cases c0 with
     | int k1 n1 =>
      cases d0 with
      | int k2 n2 =>
       simp only[fi,Bool.and_eq_true,decide_eq_true_eq]at hc hd;obtain ⟨rfl,hc⟩:=hc;obtain ⟨rfl,hd⟩:=hd;cases rx;cases ry;simp only[lO,if_true]at he;split at he
       ·rename_i b' pX;cases he;exact fin _ (run_equalIn_int w d _ _ _ _ _ hu) b' pX hc hd rfl
       ·cases he
      | _=>simp[fi]at hd
     | _=>simp[fi]at hc
    ·cases c0 with
     | str s1 =>
      cases d0 with
      | str s2 =>
       simp only[fi]at hc hd;cases rx;cases ry;simp only[lO]at he;split at he
       ·rename_i b' pX;cases he;refine fin _ (run_equalIn_string w d _ _ _ hu) b' pX hc hd ?_;congr 1;simp only[ByteArray.toList_eq]
       ·cases he
      | _=>simp[fi]at hd
     | _=>simp[fi]at hc
    ·cases c0 with
     | bool s1 =>
      cases d0 with
      | bool s2 =>
       simp only[fi]at hc hd;cases rx;cases ry;simp only[lO]at he;split at he
       ·rename_i b' pX;cases he;exact fin _ (run_equalIn_bool' w d _ _ _ hu) b' pX hc hd rfl
       ·cases he
      | _=>simp[fi]at hd
     | _=>simp[fi]at hc
def FlatT (P:Program) (ty:TypeId) (g:List V):Prop :=
 P.underlying ty=some (.struct (P.fieldsOf ty))∧P.stoodInHeld ty=false∧(∃i,P.info? ty=some i)∧P.cellsOf ty=g.length∧(P.fieldsOf ty).toList.length=g.length ∧
  ∀i f z,(P.fieldsOf ty).toList[i]? = some f→g[i]? = some z→f.name ≠ "_" ∧ f.offset=0+i∧Scal P f.type z
def NestOk (P:Program):List Field→List (List V)→Nat→Prop
 | [], [],_=>True
 | f::fs,g::gs,j=>f.name ≠ "_" ∧ f.offset=j∧((∃z,g = [z]∧Scal P f.type z)∨FlatT P f.type g)∧NestOk P fs gs (j+g.length)
 | _,_,_=>False
theorem Qd:∀ {zs cs:List V},fi zs cs=true→cs.length=zs.length
 | [], [],_=>rfl
 | [],_::_,h=>by cases h
 | z::_, [],h=>by cases z <;> cases h
 | z::zs,c::cs,h=>by
  have:fi zs cs=true:=by
   cases z <;> cases c <;> simp[fi]at h
   ·exact h.2
   ·exact h
   ·exact h
  simp[Qd this]
theorem La:∀ {g zs cs:List V},fi (g++zs) cs=true→fi g (cs.take g.length)=true∧fi zs (cs.drop g.length)=true
 | [],zs,cs,h=>by simpa [fi]using h
 | z::g,zs, [],h=>by cases z <;> cases h
 | z::g,zs,c::cs,h=>by
  have key:fi (g++zs) cs=true:=by
   cases z <;> cases c <;> simp[fi]at h
   ·exact h.2
   ·exact h
   ·exact h
  obtain ⟨h1,h2⟩:=La key;refine ⟨?_,by simpa using h2⟩;simp only[List.length_cons,List.take_succ_cons];cases z <;> cases c <;> simp[fi]at h ⊢
  ·exact ⟨h.1,h1⟩
  ·exact h1
  ·exact h1
theorem FO:∀(n:Nat) {cs ds:List V} {b:Bool},lO cs ds=some b→n≤cs.length→∃b1 b2,lO (cs.take n) (ds.take n)=some b1∧lO (cs.drop n) (ds.drop n)=some b2∧b=(b1&&b2)
 | 0,cs,ds,b,h,_=>⟨true,b,by simp[lO],by simpa using h,by simp⟩
 | n+1, [],_,_,_,hn=>by simp at hn
 | n+1,c::cs, [],b,h,_=>by cases c <;> cases h
 | n+1,c::cs,d::ds,b,h,hn=>by
  have hn':n≤cs.length:=by simpa using hn
  simp only[List.take_succ_cons,List.drop_succ_cons];cases c <;> cases d <;> simp only[lO]at h ⊢ <;> (try cases h)
  ·split at h
   ·rename_i e;rw[if_pos e];split at h
    ·rename_i r hr;cases h;obtain ⟨b1,b2,h1,h2,h3⟩:=FO n hr hn';rw[h1];exact ⟨_,b2,rfl,h2,by rw[h3,Bool.and_assoc]⟩
    ·cases h
   ·cases h
  ·split at h
   ·rename_i r hr;cases h;obtain ⟨b1,b2,h1,h2,h3⟩:=FO n hr hn';rw[h1];exact ⟨_,b2,rfl,h2,by rw[h3,Bool.and_assoc]⟩
   ·cases h
  ·split at h
   ·rename_i r hr;cases h;obtain ⟨b1,b2,h1,h2,h3⟩:=FO n hr hn';rw[h1];exact ⟨_,b2,rfl,h2,by rw[h3,Bool.and_assoc]⟩
   ·cases h
theorem flat_part {ty:TypeId} {g:List V} (s:FlatT P ty g) {xs:Array Value} {j:Nat}:(part ty xs j).run P w = .ok (.agg (xs.extract j (j+g.length))) w:=by
 obtain ⟨h1,_,⟨i,h3⟩,h4,_⟩:=s;have hs:(sizeOf ty).run P w = .ok g.length w:=by
  have:P.cellsOf ty=i.size:=by simp[Program.cellsOf,h3]
  rw[←h4,this];simp[sizeOf,typeInfo,h3]
 simp[part,Go.isAgg,run_underlying h1,hs]
theorem eqG (d:Nat) (xs ys:Array Value):∀(fs:List Field) (gs:List (List V)) (cs ds:List V) (j:Nat) (b:Bool),NestOk P fs gs j→fi gs.flatten cs=true→fi gs.flatten ds=true→lO cs ds=some b →
  (∀i v,cs[i]? = some v→∃x,xs[j+i]? = some x∧dx w h c v x)→(∀i v,ds[i]? = some v→∃x,ys[j+i]? = some x∧dx w h c v x)→(Op.eqFields (d+2) xs ys fs).run P w = .ok b w
 | [], [],cs,ds,j,b,_,hc,hd,he,_,_=>by
  cases cs with
  | cons=>cases hc
  | nil =>
   cases ds with
   | cons=>cases hd
   | nil=>cases he; simp[Op.eqFields]
 | [],_::_,_,_,_,_,hn,_,_,_,_,_=>by cases hn
 | _::_, [],_,_,_,_,hn,_,_,_,_,_=>by cases hn
 | f::fs,g::gs,cs,ds,j,b,hn,hc,hd,he,hx,hy=>by
  obtain ⟨n1,n2,n3,n4⟩:=hn;rw[List.flatten_cons]at hc hd;obtain ⟨c1,c2⟩:=La hc;obtain ⟨d1,d2⟩:=La hd;have lc:=Qd hc;have ld:=Qd hd;rw[List.length_append]at lc ld;obtain ⟨b1,b2,e1,e2,rfl⟩:=FO g.length he (by omega);have behind:∀ {cs:List V} {xs:Array Value},(∀i v,cs[i]? = some v→∃x,xs[j+i]? = some x∧dx w h c v x)→∀i v,(cs.drop g.length)[i]? = some v→∃x,xs[(j+g.length)+i]? = some x∧dx w h c v x:=by
   intro cs xs hx i v hv;rw[List.getElem?_drop]at hv;obtain ⟨x,q1,q2⟩:=hx _ v hv;exact ⟨x,by rw[←q1]; congr 1; omega,q2⟩
  have ih:=eqG d xs ys fs gs _ _ (j+g.length) b2 n4 c2 d2 e2 (behind hx) (behind hy)
  
  have key:∃x y,(part f.type xs j).run P w = .ok x w∧(part f.type ys j).run P w = .ok y w∧(Op.equalIn (d+2) f.type x y).run P w = .ok b1 w:=by
   rcases n3 with ⟨z,rfl,hz⟩|hF
   ·
    cases cs with
    | nil=>simp only[List.length_nil,List.length_cons]at lc; omega
    | cons c0 cs =>
     cases ds with
     | nil=>simp only[List.length_nil,List.length_cons]at ld; omega
     | cons d0 ds =>
      simp only[List.length_cons,List.length_nil,Nat.zero_add,List.take_succ_cons,List.take_zero]at c1 d1 e1;obtain ⟨x,hx0,rx⟩:=hx 0 c0 rfl;obtain ⟨y,hy0,ry⟩:=hy 0 d0 rfl;rw[Nat.add_zero]at hx0 hy0;refine ⟨x,y,R6 hz hx0,R6 hz hy0,?_⟩;rcases hz with ⟨k,n,rfl,hu⟩|⟨s,rfl,hu⟩|⟨q,rfl,hu⟩
      ·cases c0 <;> simp[fi]at c1;cases d0 <;> simp[fi]at d1;subst c1 d1;cases rx;cases ry;simp only[lO,if_true,Option.some.injEq]at e1;subst e1;rw[Bool.and_true];exact run_equalIn_int w (d+1) _ _ _ _ _ hu
      ·cases c0 <;> simp[fi]at c1;cases d0 <;> simp[fi]at d1;cases rx;cases ry;simp only[lO,Option.some.injEq]at e1;subst e1;rw[Bool.and_true];refine (run_equalIn_string w (d+1) f.type _ _ hu).trans ?_;congr 1;simp only[ByteArray.toList_eq]
      ·cases c0 <;> simp[fi]at c1;cases d0 <;> simp[fi]at d1;cases rx;cases ry;simp only[lO,Option.some.injEq]at e1;subst e1;rw[Bool.and_true];exact run_equalIn_bool' w (d+1) _ _ _ hu
   ·refine ⟨_,_,flat_part hF,flat_part hF,?_⟩;obtain ⟨h1,h2,h3,h4,h5,h6⟩:=hF;rw[run_equalIn_struct w (d+1) f.type _ _ h1 h2];have at0:∀ {cs:List V} {xs:Array Value},(∀i v,cs[i]? = some v→∃x,xs[j+i]? = some x∧dx w h c v x)→∀i v,(cs.take g.length)[i]? = some v→∃x,(xs.extract j (j+g.length))[0+i]? = some x∧dx w h c v x:=by
     intro cs xs hx i v hv;have hi:i<g.length:=by
      have:=(List.getElem?_eq_some_iff.1 hv).1;rw[List.length_take]at this;omega
     rw[List.getElem?_take_of_lt hi]at hv;obtain ⟨x,q1,q2⟩:=hx i v hv;refine ⟨x,?_,q2⟩;rw[Nat.zero_add,Array.getElem?_extract];have rV:j+i<xs.size:=(Array.getElem?_eq_some_iff.1 q1).1;rw[if_pos (by omega),q1]
    exact eqF d _ _ _ _ _ _ 0 b1 h6 h5 c1 d1 e1 (at0 hx) (at0 hy)
  obtain ⟨x,y,p1,p2,hr⟩:=key;simp only[Op.eqFields,n1,ne_eq,not_false_eq_true,if_true,Sem.run_bind,n2,p1,p2,Result.andThen_ok,hr];cases b1 with
  | true=>simpa using ih
  | false=>simp
def fldOf (e:TypeId) (i:Nat):Field:=⟨"x",e,i,false, "", "",0⟩
theorem Qe (d:Nat) (e:TypeId) (xs ys:Array Value):∀is:List Nat,Op.eqItems d e 1 xs ys is=Op.eqFields d xs ys (is.map (fldOf e))
 | []=>rfl
 | i::is=>by
  have ih:=Qe d e xs ys is;have hn:("x" : String) ≠ "_" :=by decide
  simp only[Op.eqItems,List.map_cons,Op.eqFields,fldOf,Nat.mul_one,ih];simp only[hn,ne_eq,not_false_eq_true,if_true]
def EqArr (P:Program) (zero:List V) (t:Nat):Prop :=
 ∃e i,P.underlying t=some (.array zero.length e)∧P.info? e=some i∧P.cellsOf e=1∧∀z∈zero,Scal P e z
theorem eqArr_run {t:Nat} {zero cs ds:List V} (ha:EqArr P zero t) (d:Nat) {xs ys:Array Value} {b:Bool} (hc:fi zero cs=true) (hd:fi zero ds=true) (he:lO cs ds=some b)
  (hx:∀i v,cs[i]? = some v→∃x,xs[0+i]? = some x∧dx w h c v x) (hy:∀i v,ds[i]? = some v→∃x,ys[0+i]? = some x∧dx w h c v x):(Op.equalIn (d+2) t (.agg xs) (.agg ys)).run P w = .ok b w:=by
 obtain ⟨e,i,h1,h2,h3,h4⟩:=ha;rw[run_equalIn_array w (d+1) xs ys h1 h2,h3,Qe];refine eqF d xs ys _ zero cs ds 0 b (fun j f z hf hz => ?_) (by simp) hc hd he hx hy;rw[List.getElem?_map]at hf;have hj:j<zero.length:=(List.getElem?_eq_some_iff.1 hz).1;rw[List.getElem?_range hj,Option.map_some,Option.some.injEq]at hf;subst hf;exact ⟨show ("x" : String) ≠ "_" by decide,by simp[fldOf],h4 z (List.mem_of_getElem? hz)⟩
def Qf (P:Program) (tt:dn) (t:Nat):Prop :=
 P.eqGuardType P.depth t=false∧((P.underlying t=some (.struct (P.fieldsOf t))∧P.stoodInHeld t=false∧∃gs,gs.flatten=(tt.at t).zero∧NestOk P (P.fieldsOf t).toList gs 0)∨EqArr P (tt.at t).zero t)
def scalB (P:Program) (ty:TypeId):V→Bool
 | .int k _=>(match P.underlying ty with|some (.int k')=>decide (k'=k)|_=>false)
 | .str _=>(match P.underlying ty with|some .string=>true|_=>false)
 | .bool _=>(match P.underlying ty with|some .bool=>true|_=>false)
 | _=>false
theorem TY {ty:TypeId} {z:V} (h:scalB P ty z=true):Scal P ty z:=by
 unfold scalB at h;split at h
 ·split at h
  ·rename_i k n _ k' hu;have e:k'=k:=by simpa using h
   subst e;exact .inl ⟨_,_,rfl,hu⟩
  ·cases h
 ·split at h
  ·rename_i hu; exact .inr (.inl ⟨_,rfl,hu⟩)
  ·cases h
 ·split at h
  ·rename_i hu; exact .inr (.inr ⟨_,rfl,hu⟩)
  ·cases h
 ·cases h
def goodB (P:Program):List Field→List V→Nat→Bool
 | [], [],_=>true
 | f::fs,z::zs,j=>decide (f.name ≠ "_")&&decide (f.offset=j)&&scalB P f.type z&&goodB P fs zs (j+1)
 | _,_,_=>false
theorem goodB_spec:∀(fs:List Field) (zs:List V) (j:Nat),goodB P fs zs j=true→fs.length=zs.length∧∀i f z,fs[i]? = some f→zs[i]? = some z→f.name ≠ "_" ∧ f.offset=j+i∧Scal P f.type z
 | [], [],_,_=>⟨rfl,fun i f z h=>by simp at h⟩
 | [],_::_,_,h=>by cases h
 | _::_, [],_,h=>by cases h
 | f::fs,z::zs,j,h=>by
  simp only[goodB,Bool.and_eq_true,decide_eq_true_eq]at h;obtain ⟨⟨⟨h1,h2⟩,h3⟩,h4⟩:=h;obtain ⟨g1,g2⟩:=goodB_spec fs zs (j+1) h4;refine ⟨by simp[g1],fun i g y hg hy => ?_⟩;cases i with
  | zero =>
   simp at hg hy;subst hg; subst hy;exact ⟨h1,h2,TY h3⟩
  | succ i =>
   obtain ⟨q1,q2,q3⟩:=g2 i g y (by simpa using hg) (by simpa using hy);exact ⟨q1,by omega,q3⟩
def flatB (P:Program) (ty:TypeId) (g:List V):Bool :=
 (match P.info? ty with|some _=>true|none=>false)&&Nat.beq (P.cellsOf ty) g.length && !P.stoodInHeld ty&&goodB P (P.fieldsOf ty).toList g 0
def goodN (P:Program):List Field→List V→Nat→Bool
 | [],zs,_=>zs.isEmpty
 | f::fs,zs,j =>
  decide (f.name ≠ "_")&&decide (f.offset=j) &&
   (match P.underlying f.type with
    | some (.struct fl)=>flatB P f.type (zs.take fl.size)&&goodN P fs (zs.drop fl.size) (j+fl.size)
    | _=>(match zs with|z::zr=>scalB P f.type z&&goodN P fs zr (j+1) | []=>false))
theorem TZ:∀(fs:List Field) (zs:List V) (j:Nat),goodN P fs zs j=true→∃gs:List (List V),gs.flatten=zs∧NestOk P fs gs j
 | [],zs,j,h=>⟨[],by simpa [goodN]using h.symm,trivial⟩
 | f::fs,zs,j,h=>by
  simp only[goodN,Bool.and_eq_true,decide_eq_true_eq]at h;obtain ⟨⟨h1,h2⟩,h3⟩:=h;split at h3
  ·rename_i fl hu;rw[Bool.and_eq_true]at h3;obtain ⟨g1,g2⟩:=h3;have hfo:P.fieldsOf f.type=fl:=by simp[Program.fieldsOf,hu]
   obtain ⟨gs,e1,e2⟩:=TZ fs _ _ g2;unfold flatB at g1;simp only[Bool.and_eq_true,Bool.not_eq_true']at g1;obtain ⟨⟨⟨k1,k2⟩,k3⟩,k4⟩:=g1;obtain ⟨q1,q2⟩:=goodB_spec _ _ _ k4;have hlen:(zs.take fl.size).length=fl.size:=by rw[←q1,hfo]; simp
   refine ⟨zs.take fl.size::gs,by rw[List.flatten_cons,e1,List.take_append_drop],h1,h2, .inr ⟨by rw[hfo]; exact hu,k3,?_,Nat.eq_of_beq_eq_true k2,q1,q2⟩,by rw[hlen]; exact e2⟩;cases hi:P.info? f.type with
   | none=>rw[hi]at k1; cases k1
   | some i=>exact ⟨i,rfl⟩
  ·split at h3
   ·rename_i z zr;rw[Bool.and_eq_true]at h3;obtain ⟨gs,e1,e2⟩:=TZ fs _ _ h3.2;exact ⟨[z]::gs,by rw[List.flatten_cons,e1]; rfl,h1,h2, .inl ⟨z,rfl,TY h3.1⟩,e2⟩
   ·cases h3
theorem Qf.of {t:Nat} (h1:P.underlying t=some (.struct (P.fieldsOf t))) (h2:P.stoodInHeld t=false) (h3:P.eqGuardType P.depth t=false) (h4:goodN P (P.fieldsOf t).toList (tt.at t).zero 0=true):Qf P tt t :=
 ⟨h3, .inl ⟨h1,h2,TZ _ _ _ h4⟩⟩
def arrB (P:Program) (e:TypeId) (zero:List V):Bool:=(match P.info? e with|some _=>true|none=>false)&&Nat.beq (P.cellsOf e) 1&&zero.all (scalB P e)
theorem Qf.ofArr {t e:Nat} (h1:P.underlying t=some (.array (tt.at t).zero.length e)) (h3:P.eqGuardType P.depth t=false) (h4:arrB P e (tt.at t).zero=true):Qf P tt t:=by
 unfold arrB at h4;simp only[Bool.and_eq_true]at h4;obtain ⟨⟨g1,g2⟩,g3⟩:=h4;refine ⟨h3, .inr ?_⟩;cases hi:P.info? e with
 | none=>rw[hi]at g1; cases g1
 | some i=>exact ⟨e,i,h1,hi,Nat.eq_of_beq_eq_true g2,fun z hz=>TY (List.all_eq_true.1 g3 z hz)⟩
theorem eqOk_eq {i:TI} {a b:List V} (h:eqOk i a b=true):i.eq=true:=by
 unfold eqOk at h;simp only[Bool.and_eq_true]at h;exact h.1.1
theorem eqs_flat {t:Nat} (e:Qf P tt t) {cs ds:List V} {xs ys:Array Value} {b:Bool} (hk:eqOk (tt.at t) cs ds=true) (rx:cz w h c cs xs.toList) (ry:cz w h c ds ys.toList) (hb:lO cs ds=some b) :
  P.eqGuardType P.depth t=false∧(Op.equalIn 10000 t (.agg xs) (.agg ys)).run P w = .ok b w:=by
 obtain ⟨e3,e⟩:=e;refine ⟨e3,?_⟩;unfold eqOk at hk;simp only[Bool.and_eq_true]at hk;have get:∀ {cs:List V} {xs:Array Value},cz w h c cs xs.toList→∀i v,cs[i]? = some v→∃x,xs[0+i]? = some x∧dx w h c v x:=by
  intro cs xs r i v hv;have hi:=(List.getElem?_eq_some_iff.1 hv).1;have hl:i<xs.size:=by have:=r.1; simp at this; omega
  refine ⟨xs[i],by simp[hl],r.2 i v _ hv (by simp[hl])⟩
 rcases e with ⟨e1,e2,gs,e4,e5⟩|e
 ·rw[run_equalIn_struct w 9999 t xs ys e1 e2];exact eqG 9997 xs ys _ gs cs ds 0 b e5 (by rw[e4]; exact hk.1.2) (by rw[e4]; exact hk.2) hb (get rx) (get ry)
 ·exact eqArr_run e 9998 hk.1.2 hk.2 hb (get rx) (get ry)
end
section
variable {R:Type} {P:Program} {tt:dn}
mutual
def Json.depth:Json→Nat
 | ⟨_,_,_,_,l⟩=>Json.IF l+1
def Json.IF:List Json→Nat
 | []=>0
 | x::l=>max x.depth (Json.IF l)
end
mutual
def Raw.depth:Raw→Nat
 | ⟨_,_,_,_,l⟩=>Raw.IF l+1
def Raw.IF:List Raw→Nat
 | []=>0
 | x::l=>max x.depth (Raw.IF l)
end
def fO.fu (x:fO):Nat:=x.aq.natAbs+x.exp.natAbs
def Json.fu (x:Json):Nat:=x.text.length+x.names.length+x.items.length
def Raw.fu (x:Raw):Nat:=x.text.length+x.items.length
def Raw3.fu (x:Raw3):Nat:=x.kind.natAbs+x.aq.natAbs+x.exp.natAbs+x.text.length
def Fld.fu (x:Fld):Nat:=x.name.length
def Mail.fu (x:Mail):Nat:=x.topic.length+x.data.length
def Token.fu (x:Token):Nat:=x.text.length
def Stop.fu (x:Stop):Nat:=0
def Way.fu (x:Way):Nat:=0
def Order.fu (x:Order):Nat:=x.header.natAbs+x.cd.length+x.order.natAbs+x.update.natAbs+x.nodes.length+x.aS.length
def Edge.fu (x:Edge):Nat:=0
def K3.fu (x:K3):Nat:=x.nodes.natAbs+x.aS.length
def SP.fu (x:SP):Nat:=x.maker.length+x.serial.length+x.kind.length
def State.fu (x:State):Nat:=x.header.natAbs+x.boot.natAbs+x.cd.length+x.order.natAbs+x.update.natAbs+x.node.natAbs+x.seq.natAbs+x.accepted.natAbs
def Ctl.fu (x:Ctl):Nat:=x.cd.length+x.header.natAbs+x.order.natAbs+x.update.natAbs+x.boot.natAbs+x.seen.natAbs+x.path.length+x.seq.natAbs+x.rel.natAbs+x.pending.header.natAbs+x.pending.cd.length+x.pending.order.natAbs+x.pending.update.natAbs+x.pending.nodes.length+x.pending.aS.length
def Op17.fu (x:Op17):Nat:=x.kind.natAbs+x.i.natAbs+x.k.natAbs+x.by_.natAbs+x.data.length
def O9.fu (x:O9):Nat:=x.header.natAbs+x.order.natAbs+x.update.natAbs+x.seq.natAbs+x.from_.natAbs+x.bE.natAbs+x.turns.length
def Ev16.fu (x:Ev16):Nat:=x.kind.natAbs+x.o.header.natAbs+x.o.order.natAbs+x.o.update.natAbs+x.o.seq.natAbs+x.o.from_.natAbs+x.o.bE.natAbs+x.o.turns.length+x.data.length
def Ev18.fu (x:Ev18):Nat:=x.kind.natAbs+x.n.natAbs+x.turns.length
def Arr3.fu (x:Arr3):Nat:=x.a.natAbs+x.b.natAbs+x.c.natAbs
def YY.fu (x:YY):Nat:=x.a.natAbs+x.b.natAbs
def Dec2.fu (x:Dec2):Nat:=x.a.aq.natAbs+x.a.exp.natAbs+x.b.aq.natAbs+x.b.exp.natAbs
def Post.fu (x:Post):Nat:=x.name.length+x.home.natAbs
def Job.fu (x:Job):Nat:=x.id.natAbs+x.target.natAbs+x.state.natAbs+x.cd.natAbs
def K4.fu (x:K4):Nat:=x.kind.natAbs+x.nums.length+x.text.length
theorem NC (rs:List Ty) (t:Nat):∃b,(tt.mode rs).at t = { tt.at t with rowy:=b }:=by
 unfold dn.mode dn.at;simp only[List.getD,List.getElem?_map];cases tt[t]? with
 | none=>exact ⟨false,rfl⟩
 | some i=>exact ⟨_,rfl⟩
theorem mode_ok (rs:List Ty) (t:Nat):(tt.mode rs).ok t=tt.ok t:=by
 obtain ⟨b,h⟩:=NC (tt:=tt) rs t;unfold dn.ok;rw[h]
theorem CU.mode (T:CU P tt) (rs:List Ty):CU P (tt.mode rs) where
 und:=fun t=>by obtain ⟨b,h⟩:=NC (tt:=tt) rs t; rw[h]; exact T.und t
 info:=fun t ht=>by
  rw[mode_ok]at ht;obtain ⟨b,h⟩:=NC (tt:=tt) rs t;rw[h];exact T.info t ht
 eqs:=fun t w h c cs ds xs ys b hk=>by
  obtain ⟨b',h'⟩:=NC (tt:=tt) rs t;rw[h']at hk;exact T.eqs t w h c cs ds xs ys b hk
 u8s:=fun e he=>by
  obtain ⟨b,h⟩:=NC (tt:=tt) rs e;rw[h]at he;exact T.u8s e he
 blds:=fun t ht=>by
  obtain ⟨b,h⟩:=NC (tt:=tt) rs t;rw[h]at ht;rw[mode_ok,h];exact T.blds t ht
 ones:=fun t ht=>by
  rw[mode_ok]at ht;obtain ⟨b,h⟩:=NC (tt:=tt) rs t;have e:(tt.mode rs).isAgg t=tt.isAgg t:=by unfold dn.isAgg; rw[h]
  rw[e];exact T.ones t ht
theorem dX {D:Type} {E:Env R} {L:Nat→Option (Hint×cQ R)} {m:Nat} {a:Code} {hint:Hint} (enc:D→St)
  (s:(Ex→St→Option R)→(D→Option R)→D→Option R) (A:(Ex→St→Option R)→Nat→D→Option R)
  (h0:∀K d,A K 0 d=none)
  (hB:∀K dJ d,roundOf tt E L m a hint (enc d) dJ K=s K (fun d=>dJ (enc d)) d)
  (hA:∀K n d,A K (n+1) d=s K (A K n) d) (K:Ex→St→Option R) :
  ∀n d,Kb (kJ tt E L m a) (norm m hint) n (enc d) (fun e st=>K e (trim m hint st))=A K n d
 | 0,d=>(h0 K d).symm
 | n+1,d=>by
  rw[loopN_succ,hB,hA];exact congrArg (fun q=>s K q d) (funext fun d=>dX enc s A h0 hB hA K n d)
theorem cS {D:Type} {E:Env R} {L:Nat→Option (Hint×cQ R)} {m:Nat} {a:Code} {hint:Hint} {ps:List cU} {hs:List aU}
  {run:cU.bT ps→aU.bT hs→(Ex→St→Option R)→Option R} {other:cQ R} {enc:D→St} {A:(Ex→St→Option R)→Nat→D→Option R}
  (ho:hG tt E L m a hint other)
  (tie:∀K n d,Kb (kJ tt E L m a) (norm m hint) n (enc d) (fun e st=>K e (trim m hint st))=A K n d)
  (fuel:cU.bT ps→aU.bT hs→Nat) (dat:cU.bT ps→aU.bT hs→D)
  (henc:∀x y,(⟨cU.fv ps x,aU.fv hs y⟩:St)=enc (dat x y))
  (nG:∀x y K,run x y K=A K (fuel x y) (dat x y)):hG tt E L m a hint (cM ps hs run other) :=
 loopBy_ok ho fun x y K=>⟨fuel x y,by rw[henc,nG]; exact tie K _ _⟩
theorem Mb {g:Nat} {ps:List cU} {hs:List aU} {run:Nat→cU.bT ps→aU.bT hs→(V→aN→Option R)→Option R} {other:Spec R}
  (fuel:cU.bT ps→aU.bT hs→Nat) (ho:Spec.Ok P g other)
  (h:∀n,Spec.Ok P g (aG ps hs (run n) av)):Spec.Ok P g (aG ps hs (fun x y k=>run (fuel x y) x y k) other):=by
 intro vs hp k r hk;unfold aG at hk;split at hk
 ·rename_i x y h1 h2;refine h (fuel x y) vs hp k r ?_;unfold aG;rw[h1,h2];exact hk
 ·exact ho _ _ _ _ hk
theorem Ca {g:Nat} {ps:List cU} {hs:List aU} {run:Nat→cU.bT ps→aU.bT hs→(V→aN→Option R)→Option R}
  (h0:∀x y k,run 0 x y k=none)
  (hs':∀n,Spec.Ok P g (aG ps hs (run n) av)→Spec.Ok P g (aG ps hs (run (n+1)) av)):∀n,Spec.Ok P g (aG ps hs (run n) av)
 | 0=>by
  intro vs hp k r hk;unfold aG at hk;split at hk
  ·rw[h0]at hk; cases hk
  ·cases hk
 | n+1=>hs' n (Ca h0 hs' n)
theorem IG {g:Nat} {ps:List cU} {hs:List aU} {run run':cU.bT ps→aU.bT hs→(V→aN→Option R)→Option R} {other:Spec R}
  (h:Spec.Ok P g (aG ps hs run other)) (e:run'=run):Spec.Ok P g (aG ps hs run' other):=e▸h
end
abbrev hJ (s:ae):List Int:=TB s
end Go.aA
end
