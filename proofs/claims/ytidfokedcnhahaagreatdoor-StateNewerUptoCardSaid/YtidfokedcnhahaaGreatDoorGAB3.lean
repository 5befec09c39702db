/-
  GA, part 3 of 10.
-/
import Derived.Calls
import Derived.Orders
import Derived.ChangeKeysEq
import Derived.Test.YtidfokedcnhahaaGreatDoorGAB2
set_option linter.unusedSimpArgs false
set_option linter.unnecessarySimpa false
set_option linter.unusedVariables false
set_option linter.unusedSectionVars false
noncomputable section
namespace Go.aq
open Go.RowKit
section
variable {w w':World} {h h':aM} {c c':jI}
theorem uk {i:Nat}:∀ {cs:List V},i∈V.xj cs↔∃(j:Nat) (v:V),cs[j]? = some v∧i∈v.ids
 | []=>by simp[V.xj]
 | v::cs=>by
  simp only[V.xj,List.mem_append,uk (cs:=cs)]
  constructor
  ·rintro (h|⟨j,u,h1,h2⟩)
   ·exact ⟨0,v,rfl,h⟩
   ·exact ⟨j+1,u,h1,h2⟩
  ·rintro ⟨j,u,h1,h2⟩
   cases j with
   | zero=>simp at h1; subst h1; exact .inl h2
   | succ j=>exact .inr ⟨j,u,h1,h2⟩
theorem dx.E0 {v:V} {d:Value} (r:dx w h c v d):∀i∈v.ids,Used h i:=by
 induction r with
 | undef v=>simp[V.ids]
 | int hn=>simp[V.ids]
 | bool b=>simp[V.ids]
 | str hl=>simp[V.ids]
 | ir=>simp[V.ids]
 | cx=>simp[V.ids]
 | fC=>simp[V.ids]
 | pz=>simp[V.ids]
 | dJ=>simp[V.ids]
 | iface t v=>simp[V.ids]
 | SW hn=>simp[V.ids]
 | RN b=>simp[V.ids]
 | ptr hi _=>simpa [V.ids]using hi
 | map hi _=>simpa [V.ids]using hi
 | row hi _ _=>simpa [V.ids]using hi
 | wz hi _ _=>simpa [V.ids]using hi
 | xi hi _=>simpa [V.ids]using hi
 | Ai f hc _ ih =>
  intro i hi
  simp only[V.ids]at hi
  obtain ⟨j,v,h1,h2⟩:=uk.1 hi
  exact ih j v h1 i h2
 | @sl T l t A cap f iN tf hc hr D1 l9 ih =>
  intro i hi
  cases t with
  | no=>simp[V.ids]at hi
  | nil=>simp[V.ids]at hi
  | own j=>simp[V.ids]at hi; subst hi; exact (l9 i rfl).1
 | Xv hn tf f hc _ ih =>
  intro i hi
  simp only[V.ids]at hi
  obtain ⟨j,v,h1,h2⟩:=uk.1 hi
  exact ih j v h1 i h2
 | @func f a b x y ha hb _ _ iha ihb =>
  intro i hi
  simp only[V.ids,List.mem_append]at hi
  rcases hi with hi|hi
  ·obtain ⟨j,v,h1,h2⟩:=uk.1 hi
   have hj:=(List.getElem?_eq_some_iff.1 h1).1
   exact iha j v _ h1 (Array.getElem?_eq_getElem (by omega)) i h2
  ·obtain ⟨j,v,h1,h2⟩:=uk.1 hi
   have hj:=(List.getElem?_eq_some_iff.1 h1).1
   exact ihb j v _ h1 (Array.getElem?_eq_getElem (by omega)) i h2
 | agg hl _ ih =>
  intro i hi
  simp only[V.ids]at hi
  obtain ⟨j,v,h1,h2⟩:=uk.1 hi
  have hj:=(List.getElem?_eq_some_iff.1 h1).1
  exact ih j v _ h1 (Array.getElem?_eq_getElem (by omega)) i h2
 | tuple hl _ ih =>
  intro i hi
  simp only[V.ids]at hi
  obtain ⟨j,v,h1,h2⟩:=uk.1 hi
  have hj:=(List.getElem?_eq_some_iff.1 h1).1
  exact ih j v _ h1 (Array.getElem?_eq_getElem (by omega)) i h2
theorem cC.E0 {cs:List V} {ds:List Value} (r:cC w h c cs ds):∀i∈V.xj cs,Used h i:=by
 intro i hi
 obtain ⟨j,v,h1,h2⟩:=uk.1 hi
 have hj:=(List.getElem?_eq_some_iff.1 h1).1
 exact (r.2 j v _ h1 (List.getElem?_eq_getElem (by have:=r.1; omega))).E0 i h2
theorem WF.E0 (wf:WF w h c) (i:Nat):∀j∈(h.at i).ids,Used h j:=by
 intro j hj
 cases e:h.at i with
 | cells cs =>
  rw[e]at hj
  have ho:=wf.obj i (aM.gF rfl (by rw[e]; simp))
  rw[e]at ho
  obtain ⟨b,arr,el,_,_,r⟩:=ho
  exact r.E0 j hj
 | mE v =>
  rw[e]at hj
  have ho:=wf.obj i (aM.gF rfl (by rw[e]; simp))
  rw[e]at ho
  obtain ⟨b,p,d,_,_,_,r⟩:=ho
  exact r.E0 j hj
 | _=>rw[e]at hj; simp[cm.ids]at hj
theorem S7 (wf:WF w h c):∀(n:Nat) (todo seen:List Nat),(∀i∈todo,Used h i)→(∀i∈seen,Used h i)→∀i∈reach h n todo seen,Used h i
 | 0,_,_,_,hs=>hs
 | n+1, [],_,_,hs=>hs
 | n+1,i::todo,seen,ht,hs=>by
  simp only[reach]
  split
  ·exact S7 wf n _ _ (fun j hj=>ht j (by simp[hj])) hs
  ·refine S7 wf n _ _ (fun j hj => ?_) (fun j hj => ?_)
   ·rcases List.mem_append.1 hj with hj|hj
    ·exact ht j (by simp[hj])
    ·exact wf.E0 i j hj
   ·rcases List.mem_append.1 hj with hj|hj
    ·exact hs j hj
    ·simp at hj; subst hj; exact ht j (by simp)
theorem xk.lt (wf:WF w h c) {b x:Nat} (ho:xk h c b x):b<w.heap.size:=by
 obtain ⟨i,f,h1,h2,_⟩:=ho
 have hl:(h.at i).live:=by cases e:h.at i <;> rw[e]at h2 <;> simp_all [cm.from_,cm.live]
 exact (wf.obj i (aM.gF rfl (BG hl))).lt hl h1
theorem live_from {o:cm} (h:o.live) (f:Nat):∃g,o.from_ f=some g:=by cases o <;> simp_all [cm.from_,cm.live]
def Uk (h:aM) (c:jI) (ord:List Nat) (b x:Nat):Prop:=∃i∈ord,∃f,c.vN i=some b∧(h.at i).from_ (c.off i)=some f∧f≤x
def Zc (h:aM) (c:jI) (ord:List Nat):ExtT:=⟨fun b x=>c.ext b x∨(xk h c b x∧¬Uk h c ord b x)⟩
theorem Uk.Bp {ord:List Nat} {b x:Nat} (o:Uk h c ord b x):xk h c b x:=by obtain ⟨i,_,f,h1,h2,h3⟩:=o; exact ⟨i,f,h1,h2,h3⟩
theorem Zd {ord:List Nat}:∀b x,RP h c b x→¬Zc h c ord b x:=by
 rintro b x hf (he|he)
 ·exact hf.2 he
 ·exact hf.1 he.1
theorem VP (wf:WF w h c) {ord:List Nat} (KZ:ord.Nodup):WF w (h.pick ord) (c.pick ord (Zc h c ord)):=by
 refine pick_wf wf KZ Zd ?_ ?_
 ·rintro b x (he|he)
  ·exact wf.rG b x he
  ·exact he.1.lt wf
 ·rintro b x ho (he|he)
  ·exact wf.C8 b x (Uk.Bp ho) he
  ·exact he.2 ho
theorem S8 {ord:List Nat} {cs:List V} {ds:List Value} (r:cC w h c cs ds):cC w (h.pick ord) (c.pick ord (Zc h c ord)) (V.DZ (Dl ord) cs) ds :=
 r.rU (Zb Zd)
theorem fU:∀(l:List (Nat×cm)) (h:aM),(aM.FK h l).length=h.length
 | [],_=>rfl
 | (i,o)::l,h=>by simp[aM.FK,fU l]
theorem Mu {i:Nat}:∀(ord:List Nat) (os:List cm) (h:aM),i∉ord→aM.at (aM.FK h (ord.zip os)) i=h.at i
 | [],_,_,_=>rfl
 | _::_, [],_,_=>rfl
 | a::ord,o::os,h,hn=>by
  simp only[List.zip_cons_cons,aM.FK]
  rw[Mu ord os _ (fun hm=>hn (by simp[hm]))]
  exact cG _ (fun e=>hn (by simp[e]))
theorem VQ {i:Nat}:∀(ord:List Nat) (os:List cm) (h:aM) (j:Nat) (o:cm),ord.Nodup→ord[j]? = some i→os[j]? = some o→i<h.length→aM.at (aM.FK h (ord.zip os)) i=o
 | [],_,_,_,_,_,hj,_,_=>by simp at hj
 | _::_, [],_,_,_,_,_,ho,_=>by simp at ho
 | a::ord,p::os,h,j,o,KZ,hj,ho,hi=>by
  simp only[List.zip_cons_cons,aM.FK]
  cases j with
  | zero =>
   simp at hj ho
   subst hj; subst ho
   rw[Mu ord os _ (by simpa using (List.nodup_cons.1 KZ).1)]
   exact lL _ hi
  | succ j=>exact VQ ord os _ j o (List.nodup_cons.1 KZ).2 (by simpa using hj) (by simpa using ho) (by simpa using hi)
theorem kl {a b:aM} {i:Nat} (hi:i<a.length):aM.at (a++b) i=aM.at a i:=by simp[aM.at,List.getD,List.getElem?_append_left hi]
theorem jB {a b:aM} {i:Nat} (hi:a.length≤i):aM.at (a++b) i=aM.at b (i - a.length):=by simp[aM.at,List.getD,List.getElem?_append_right hi]
theorem Ul {ord:List Nat} (KZ:ord.Nodup) {i j:Nat} (e:ord[j]? = some i):Dl ord i=some j:=by
 obtain ⟨hj,rfl⟩:=List.getElem?_eq_some_iff.1 e
 have hm:ord[j]∈ord:=List.getElem_mem hj
 have je:ord.idxOf ord[j]<ord.length:=List.idxOf_lt_length_of_mem hm
 unfold Dl
 simp only[je,if_true]
 have hg:=List.getElem_idxOf je
 have hp:=List.pairwise_iff_getElem.1 KZ
 rcases Nat.lt_trichotomy (ord.idxOf ord[j]) j with hl|he|hl
 ·exact (hp _ _ je hj hl hg).elim
 ·rw[he]
 ·exact (hp _ _ hj je hl hg.symm).elim
theorem D8 {ord:List Nat} {i:Nat} (h:i∉ord):Dl ord i=none:=by
 cases e:Dl ord i with
 | none=>rfl
 | some j=>exact (h (List.mem_of_getElem? (HJ e))).elim
def jI.back (c:jI) (ord:List Nat) (n:Nat) (c':jI):jI :=
 ⟨fun i=>match Dl ord i with|some j=>c'.vN j|none=>if i<n then c.vN i else c'.vN (i - n+ord.length),
  fun i=>match Dl ord i with|some j=>c'.off j|none=>if i<n then c.off i else c'.off (i - n+ord.length),c.ext⟩
theorem Jo {ord:List Nat} (KZ:ord.Nodup) (je:∀i∈ord,i<h.length) (hle:ord.length≤h'.length) (i:Nat) :
  (∃j,qD ord h.length j=i∧j<h'.length∧aM.at (h.back ord h') i=(h'.at j).rU (fun j=>some (qD ord h.length j))∧(c.back ord h.length c').vN i=c'.vN j∧(c.back ord h.length c').off i=c'.off j) ∨
  (i∉ord∧i<h.length∧aM.at (h.back ord h') i=h.at i∧(c.back ord h.length c').vN i=c.vN i∧(c.back ord h.length c').off i=c.off i) ∨
  ((h.back ord h').length≤i∧aM.at (h.back ord h') i = .dead):=by
 have hlen:(h.back ord h').length=h.length+(h'.length - ord.length):=by simp[aM.back,fU]
 by_cases hm:i∈ord
 ·obtain ⟨j,hj,e⟩:=List.mem_iff_getElem.1 hm
  have e':ord[j]? = some i:=by rw[List.getElem?_eq_getElem hj,e]
  have hi:=je i hm
  refine .inl ⟨j,by simp[qD,hj,List.getD,e],by omega,?_,by simp[jI.back,Ul KZ e'],by simp[jI.back,Ul KZ e']⟩
  unfold aM.back
  simp only
  rw[kl (by rw[fU]; exact hi)]
  refine VQ ord _ h j _ KZ e' ?_ hi
  have hj':j<h'.length:=by omega
  simp[hj,aM.at,List.getD,List.getElem?_eq_getElem hj']
 ·by_cases hi:i<h.length
  ·refine .inr (.inl ⟨hm,hi,?_,by simp[jI.back,D8 hm,hi],by simp[jI.back,D8 hm,hi]⟩)
   unfold aM.back
   simp only
   rw[kl (by rw[fU]; exact hi)]
   exact Mu ord _ h hm
  ·by_cases hb:i<(h.back ord h').length
   ·rw[hlen]at hb
    refine .inl ⟨i - h.length+ord.length,?_,by omega,?_,by simp[jI.back,D8 hm,hi],by simp[jI.back,D8 hm,hi]⟩
    ·have:¬(i - h.length+ord.length<ord.length):=by omega
     simp only[qD,this,if_false]
     omega
    ·unfold aM.back
     simp only
     rw[jB (by rw[fU]; omega),fU]
     have ph:i - h.length+ord.length<h'.length:=by omega
     have hq:ord.length+(i - h.length)=i - h.length+ord.length:=by omega
     simp[aM.at,List.getD,hq,List.getElem?_eq_getElem ph]
   ·refine .inr (.inr ⟨by omega,?_⟩)
    simp[aM.at,List.getD,List.getElem?_eq_none (Nat.le_of_not_lt hb)]
theorem Yk {ord:List Nat} (KZ:ord.Nodup) (je:∀i∈ord,i<h.length) (hle:ord.length≤h'.length) (j:Nat) :
  aM.at (h.back ord h') (qD ord h.length j)=(h'.at j).rU (fun j=>some (qD ord h.length j))∧(c.back ord h.length c').vN (qD ord h.length j)=c'.vN j∧(c.back ord h.length c').off (qD ord h.length j)=c'.off j:=by
 have hlen:(h.back ord h').length=h.length+(h'.length - ord.length):=by simp[aM.back,fU]
 by_cases hj:j<ord.length
 ·have hb:qD ord h.length j=ord[j]:=by simp[qD,hj,List.getD]
  have e':ord[j]? = some ord[j]:=List.getElem?_eq_getElem hj
  have hi:=je _ (List.getElem_mem hj)
  rw[hb]
  refine ⟨?_,by simp[jI.back,Ul KZ e'],by simp[jI.back,Ul KZ e']⟩
  unfold aM.back
  simp only
  rw[kl (by rw[fU]; exact hi)]
  refine VQ ord _ h j _ KZ e' ?_ hi
  have hj':j<h'.length:=by omega
  simp[hj,aM.at,List.getD,List.getElem?_eq_getElem hj']
 ·have hb:qD ord h.length j=h.length+(j - ord.length):=by simp[qD,hj]
  have hm:h.length+(j - ord.length)∉ord:=fun hm=>by have:=je _ hm; omega
  have hn:¬(h.length+(j - ord.length)<h.length):=by omega
  have hs:h.length+(j - ord.length) - h.length+ord.length=j:=by omega
  rw[hb]
  refine ⟨?_,by simp only[jI.back,D8 hm,hn,if_false,hs],by simp only[jI.back,D8 hm,hn,if_false,hs]⟩
  unfold aM.back
  simp only
  rw[jB (by rw[fU]; omega),fU]
  have hq:h.length+(j - ord.length) - h.length=j - ord.length:=by omega
  have hq2:ord.length+(j - ord.length)=j:=by omega
  rw[hq]
  by_cases hj':j<h'.length
  ·simp[aM.at,List.getD,hq2,List.getElem?_eq_getElem hj']
  ·simp[aM.at,List.getD,hq2,List.getElem?_eq_none (Nat.le_of_not_lt hj'),cm.rU]
theorem ren_sim_l {ρ:Nat→Option Nat} {o o':cm}:(o.rU ρ).iG o'↔o.iG o':=by cases o <;> cases o' <;> simp[cm.rU,cm.iG,zn]
theorem ren_sim_r {ρ:Nat→Option Nat} {o o':cm}:o.iG (o'.rU ρ)↔o.iG o':=by cases o <;> cases o' <;> simp[cm.rU,cm.iG,zn]
theorem Ld {o:cm} (h:o.live) (hm:∀K T l,o ≠ .Aj K T l∨True):o.iG o:=by cases o <;> simp_all [cm.iG,cm.live]
theorem call_back (wf:WF w h c) {ord:List Nat} (KZ:ord.Nodup) (hu:∀i∈ord,Used h i) (wf':WF w' h' c') (x:Ext w (h.pick ord) (c.pick ord (Zc h c ord)) w' h' c') :
  WF w' (h.back ord h') (c.back ord h.length c')∧Ext w h c w' (h.back ord h') (c.back ord h.length c')∧RenOK (fun j=>some (qD ord h.length j)) h' c' (h.back ord h') (c.back ord h.length c'):=by
 have je:∀i∈ord,i<h.length:=fun i hi=>(hu i hi).1
 have hup:∀j,j<ord.length→Used (h.pick ord) j:=fun j hj=>by
  refine ⟨by simpa [aM.pick]using hj,?_⟩
  rw[vR,List.getElem?_eq_getElem hj]
  simp only[ne_eq,HK]
  exact (hu _ (List.getElem_mem hj)).2
 have hle:ord.length≤h'.length:=by
  rcases Nat.eq_zero_or_pos ord.length with h0|h0
  ·omega
  ·have:=(x.used _ (hup (ord.length - 1) (by omega))).1; omega
 have hlen:(h.back ord h').length=h.length+(h'.length - ord.length):=by simp[aM.back,fU]
 -- who owns a cell
 have Ug:∀b y,xk (h.back ord h') (c.back ord h.length c') b y→xk h' c' b y∨∃i f,i∉ord∧i<h.length∧c.vN i=some b∧(h.at i).from_ (c.off i)=some f∧f≤y:=by
  rintro b y ⟨i,f,h1,h2,h3⟩
  rcases Jo (c:=c) (c':=c') KZ je hle i with ⟨j,_,_,g1,g2,g3⟩|⟨g0,g1,g2,g3,g4⟩|⟨_,g1⟩
  ·rw[g2]at h1; rw[g1,g3,ren_from]at h2
   exact .inl ⟨j,f,h1,h2,h3⟩
  ·rw[g3]at h1; rw[g2,g4]at h2
   exact .inr ⟨i,f,g0,g1,h1,h2,h3⟩
  ·rw[g1]at h2; cases h2
 have hown':∀i f b y,i∉ord→c.vN i=some b→(h.at i).from_ (c.off i)=some f→f≤y→Zc h c ord b y:=by
  intro i f b y hi h1 h2 h3
  refine .inr ⟨⟨i,f,h1,h2,h3⟩,?_⟩
  rintro ⟨i2,hm,f2,g1,g2,g3⟩
  have:=wf.inj i i2 b (uN h2) (uN g2) h1 g1
  subst this
  exact hi hm
 have hpick:∀b y,xk (h.pick ord) (c.pick ord (Zc h c ord)) b y→Uk h c ord b y:=fun b y ho=>Lc ho
 have hext:c'.ext=Zc h c ord:=x.ext
 have hren:RenOK (fun j=>some (qD ord h.length j)) h' c' (h.back ord h') (c.back ord h.length c'):=by
  refine ⟨fun i j e hi => ?_,fun i j e hd => ?_,fun i j e ht => ?_,fun i j e T l ht => ?_,fun b y hf=>⟨fun ho => ?_,fun he => ?_⟩⟩
  ·cases e
   obtain ⟨g1,_,_⟩:=Yk (c:=c) (c':=c') KZ je hle i
   refine ⟨?_,by rw[g1]; simp only[ne_eq,HK]; exact hi.2⟩
   rw[hlen]
   unfold qD
   have:=hi.1
   split
   ·rename_i hj
    have:=je _ (List.getElem_mem hj)
    simp only[List.getD,List.getElem?_eq_getElem hj,Option.getD_some]
    omega
   ·omega
  ·cases e
   obtain ⟨g1,g2,g3⟩:=Yk (c:=c) (c':=c') KZ je hle i
   rw[g1]at hd
   simp only[ne_eq,Uj]at hd
   exact ⟨hd,g2,g3⟩
  ·cases e
   rw[(Yk (c:=c) (c':=c') KZ je hle i).1]at ht
   exact ren_tok.1 ht
  ·cases e
   rw[(Yk (c:=c) (c':=c') KZ je hle i).1]at ht
   exact ren_row.1 ht
  ·rcases Ug b y ho with ho|⟨i,f,g0,_,g2,g3,g4⟩
   ·exact hf.1 ho
   ·exact hf.2 (by rw[hext]; exact hown' i f b y g0 g2 g3 g4)
  ·exact hf.2 (by rw[hext]; exact .inl he)
 have hx:Ext w h c w' (h.back ord h') (c.back ord h.length c'):=by
  refine ⟨x.os,x.tape,x.output,x.size,fun i hi => ?_,fun i hi hd => ?_,fun b y hb ho=>x.cell b y hb (fun o=>ho (hpick b y o).Bp),fun b hb ho=>x.block b hb (fun y o=>ho y (hpick b y o).Bp),fun b y hb ho => ?_,rfl,x.arr⟩
  ·rcases Jo (c:=c) (c':=c') KZ je hle i with ⟨j,g0,gj,g1,g2,g3⟩|⟨g0,g1,g2,g3,g4⟩|⟨g0,_⟩
   ·refine ⟨by have:=hi.1; omega,?_⟩
    rw[g1]; simp only[ne_eq,HK]
    have hjo:j<ord.length:=by
     unfold qD at g0
     split at g0
     ·assumption
     ·have:=hi.1; omega
    exact (x.used j (hup j hjo)).2
   ·exact ⟨by omega,by rw[g2]; exact hi.2⟩
   ·have:=hi.1; omega
  ·rcases Jo (c:=c) (c':=c') KZ je hle i with ⟨j,g0,gj,g1,g2,g3⟩|⟨g0,g1,g2,g3,g4⟩|⟨g0,_⟩
   ·have hjo:j<ord.length:=by
     unfold qD at g0
     split at g0
     ·assumption
     ·have:=hi.1; omega
    have e:ord[j]? = some i:=by
     simp only[qD,hjo,if_true,List.getD,List.getElem?_eq_getElem hjo,Option.getD_some]at g0
     rw[List.getElem?_eq_getElem hjo,g0]
    rw[g1]at hd ⊢
    simp only[ne_eq,Uj]at hd
    obtain ⟨s1,s2,s3⟩:=x.same j (hup j hjo) hd
    rw[vR,e]at s1
    rw[g2,g3,s2,s3]
    exact ⟨ren_sim_r.2 (ren_sim_l.1 s1),by simp[jI.pick,e],by simp[jI.pick,List.getD,e]⟩
   ·rw[g2]at hd ⊢
    exact ⟨Ld (Rl hi.2 hd) (fun _ _ _ => .inr trivial),g3,g4⟩
   ·have:=hi.1; omega
  ·rcases Ug b y ho with ho|⟨i,f,g0,_,g2,g3,g4⟩
   ·exact (hpick b y (x.Bp b y hb ho)).Bp
   ·exact ⟨i,f,g2,g3,g4⟩
 refine ⟨⟨fun b y ho he => ?_,fun b y he=>Nat.lt_of_lt_of_le (wf.rG b y he) x.size,fun i hi => ?_,fun i j b hi hj h1 h2 => ?_,wf.vP hx⟩,hx,hren⟩
 ·rcases Ug b y ho with ho|⟨i,f,g0,_,g2,g3,g4⟩
  ·exact wf'.C8 b y ho (by rw[hext]; exact .inl he)
  ·exact wf.C8 b y ⟨i,f,g2,g3,g4⟩ he
 ·rcases Jo (c:=c) (c':=c') KZ je hle i with ⟨j,g0,gj,g1,g2,g3⟩|⟨g0,g1,g2,g3,g4⟩|⟨_,g0⟩
  ·rw[g1]
   exact (wf'.obj j gj).rU hren g2 g3
  ·rw[g2]
   by_cases hl:(h.at i).live
   ·refine (wf.obj i g1).uY hx (fun b hb=>x.block b ((wf.obj i g1).lt hl hb) fun y o => ?_) g3 g4
    obtain ⟨i2,hm,f2,k1,k2,_⟩:=hpick b y o
    have:=wf.inj i i2 b hl (uN k2) hb k1
    subst this
    exact g0 hm
   ·have h0:h.at i = .free∨h.at i = .dead:=by revert hl; cases h.at i <;> simp[cm.live]
    rcases h0 with h0|h0 <;> rw[h0] <;> trivial
  ·rw[g0]; trivial
 ·have key:∀i j b,i∉ord→(h.at i).live→c.vN i=some b→(h'.at j).live→c'.vN j=some b→False:=by
   intro i j b hi hl hb hl' ph
   have hbl:=(wf.obj i (aM.gF rfl (BG hl))).lt hl hb
   obtain ⟨f,hf⟩:=live_from hl' (c'.off j)
   obtain ⟨i2,hm,f2,k1,k2,_⟩:=hpick b f (x.Bp b f hbl ⟨j,f,ph,hf,Nat.le_refl _⟩)
   have:=wf.inj i i2 b hl (uN k2) hb k1
   subst this
   exact hi hm
  rcases Jo (c:=c) (c':=c') KZ je hle i with ⟨i',a0,_,a1,a2,a3⟩|⟨a0,a1,a2,a3,a4⟩|⟨_,a0⟩
  ·rcases Jo (c:=c) (c':=c') KZ je hle j with ⟨j',b0,_,b1,b2,b3⟩|⟨b0,b1,b2,b3,b4⟩|⟨_,b0⟩
   ·rw[a1,Lb]at hi; rw[b1,Lb]at hj
    rw[a2]at h1; rw[b2]at h2
    rw[←a0,←b0,wf'.inj i' j' b hi hj h1 h2]
   ·rw[a1,Lb]at hi; rw[b2]at hj
    rw[a2]at h1; rw[b3]at h2
    exact (key j i' b b0 hj h2 hi h1).elim
   ·rw[b0]at hj; exact hj.elim
  ·rcases Jo (c:=c) (c':=c') KZ je hle j with ⟨j',b0,_,b1,b2,b3⟩|⟨b0,b1,b2,b3,b4⟩|⟨_,b0⟩
   ·rw[a2]at hi; rw[b1,Lb]at hj
    rw[a3]at h1; rw[b2]at h2
    exact (key i j' b a0 hi h1 hj h2).elim
   ·rw[a2]at hi; rw[b2]at hj
    rw[a3]at h1; rw[b3]at h2
    exact wf.inj i j b hi hj h1 h2
   ·rw[b0]at hj; exact hj.elim
  ·rw[a0]at hi; exact hi.elim
end
section
variable {tt:dd} {h:aM} {R:Type}
theorem Hs {t off:Nat} {cs:List V} {k0:V→Option R} {r:R} (hk:vM tt t cs off k0=some r) :
  ∃v,k0 v=some r∧∀k:V→Option R,vM tt t cs off k=k v:=by
 unfold vM at hk
 split at hk
 ·rename_i tg
  split at hk
  ·rename_i YQ
   split at hk
   ·rename_i qE
    exact ⟨_,hk,fun k=>by simp[vM,tg,YQ,qE]⟩
   ·cases hk
  ·rename_i YQ
   split at hk
   ·rename_i v hv
    exact ⟨_,hk,fun k=>by simp[vM,tg,YQ,hv]⟩
   ·cases hk
 ·cases hk
theorem Um {op:BinOp} {x y:V} {k0:V→Option R} {r:R} (hk:C7 op x y k0=some r) :
  ∃v,k0 v=some r∧∀k:V→Option R,C7 op x y k=k v:=by
 unfold C7 at hk
 split at hk
 ·obtain ⟨hb,hk⟩:=cd hk
  exact ⟨_,hk,fun k=>by simp[C7,cw,hb]⟩
 ·obtain ⟨hb,hk⟩:=cd hk
  exact ⟨_,hk,fun k=>by simp[C7,cw,hb]⟩
 ·split at hk
  ·rename_i AT
   subst AT
   split at hk <;> first
    | (exact ⟨_,hk,fun k=>by simp[C7]⟩)
    | (obtain ⟨hb,hk⟩:=cd hk; exact ⟨_,hk,fun k=>by simp only[C7,hb,cw,cond_true,if_true]⟩)
    | cases hk
  ·cases hk
 ·split at hk <;> first
    | (exact ⟨_,hk,fun k=>by simp[C7]⟩)
    | (obtain ⟨hb,hk⟩:=cd hk; exact ⟨_,hk,fun k=>by simp only[C7,hb,cw,cond_true]⟩)
    | cases hk
 ·split at hk
  ·exact ⟨_,hk,fun k=>by simp[C7, *]⟩
  ·cases hk
 ·split at hk
  ·exact ⟨_,hk,fun k=>by simp[C7, *]⟩
  ·cases hk
 ·cases hk
theorem ptrK_nat {op:BinOp} {x y:V} {k0:V→Option R} {r:R} (hk:ptrK op x y k0=some r) :
  ∃v,k0 v=some r∧∀k:V→Option R,ptrK op x y k=k v:=by
 unfold ptrK at hk
 split at hk
 ·split at hk
  ·exact ⟨_,hk,fun k=>by simp[ptrK, *]⟩
  ·exact ⟨_,hk,fun k=>by simp[ptrK, *]⟩
  ·cases hk
 ·cases hk
theorem ifK_nat {op:BinOp} {o:Operand} {x y:V} {k0:V→Option R} {r:R} (hk:ifK op o x y k0=some r) :
  ∃v,k0 v=some r∧∀k:V→Option R,ifK op o x y k=k v:=by
 unfold ifK at hk
 split at hk <;> first|(exact ⟨_,hk,fun k=>by simp[ifK]⟩)|cases hk
theorem nilOf_nat {a:V} {neg:Bool} {k0:V→Option R} {r:R} (hk:Od a (fun r=>k0 (YH neg r))=some r) :
  ∃v,k0 v=some r∧∀k:V→Option R,Od a (fun r=>k (YH neg r))=k v:=by
 unfold Od at hk
 split at hk <;> try cases hk
 ·exact ⟨_,hk,fun k=>by simp[Od]⟩
 ·rename_i l _
  cases hl:l.isEmpty with
  | true=>rw[hl]at hk; exact ⟨_,hk,fun k=>by simp only[Od,hl]; rfl⟩
  | false=>rw[hl]at hk; exact ⟨_,hk,fun k=>by simp only[Od,hl]; rfl⟩
 ·rename_i n
  cases hl:decide (n=0)with
  | true=>rw[hl]at hk; exact ⟨_,hk,fun k=>by simp only[Od,hl]; rfl⟩
  | false=>rw[hl]at hk; exact ⟨_,hk,fun k=>by simp only[Od,hl]; rfl⟩
theorem slK_nat {op:BinOp} {x y:V} {k0:V→Option R} {r:R} (hk:slK op x y k0=some r) :
  ∃v,k0 v=some r∧∀k:V→Option R,slK op x y k=k v:=by
 unfold slK at hk
 split at hk
 ·split at hk
  ·obtain ⟨v,h1,h2⟩:=nilOf_nat hk
   exact ⟨v,h1,fun k=>by simp[slK,h2]⟩
  ·obtain ⟨v,h1,h2⟩:=nilOf_nat hk
   exact ⟨v,h1,fun k=>by simp[slK,h2]⟩
  ·cases hk
 ·cases hk
theorem E1 {v:Option V} {d:Int} {k0:Int→Option R} {r:R} (hk:J1 v d k0=some r) :
  ∃n,k0 n=some r∧∀k:Int→Option R,J1 v d k=k n:=by
 unfold J1 at hk
 split at hk
 ·exact ⟨_,hk,fun k=>rfl⟩
 ·exact ⟨_,hk,fun k=>rfl⟩
 ·cases hk
theorem opP_nat {o:Op} {ρ:Operand→V} {k0:V→Option R} {r:R} (hk:opP tt o ρ k0=some r) :
  ∃v,k0 v=some r∧∀k:V→Option R,opP tt o ρ k=k v:=by
 cases o <;> simp only[opP]at hk ⊢ <;> try (first|cases hk)
 case move x=>exact ⟨_,hk,fun k=>rfl⟩
 case assign x=>exact ⟨_,hk,fun k=>rfl⟩
 case pick c a b =>
  split at hk
  ·rename_i t ht
   split at hk
   ·rename_i u v hu hv
    exact ⟨_,hk,fun k=>by simp[ht,hu,hv]⟩
   ·rename_i u v hn
    refine ⟨bif t then ρ a else ρ b,by cases t <;> exact hk,fun k => ?_⟩
    cases t <;> rfl
  ·cases hk
 case nilCheck x =>
  split at hk <;> first|(exact ⟨_,hk,fun k=>by simp[*]⟩)|cases hk
 case binOp op t x y _ =>
  split at hk
  ·split at hk
   ·obtain ⟨v,h1,h2⟩:=Um hk
    exact ⟨v,h1,fun k=>by simp[*]⟩
   ·cases hk
  ·split at hk
   ·obtain ⟨v,h1,h2⟩:=Um hk
    exact ⟨v,h1,fun k=>by simp[*]⟩
   ·cases hk
  ·obtain ⟨v,h1,h2⟩:=Um hk
   exact ⟨v,h1,fun k=>by simp[*]⟩
  ·obtain ⟨v,h1,h2⟩:=Um hk
   exact ⟨v,h1,fun k=>by simp[*]⟩
  ·rename_i n1 n2 n3 n4
   split at hk
   ·rename_i hd
    obtain ⟨v,h1,h2⟩:=ptrK_nat hk
    exact ⟨v,h1,fun k=>by simp[*]⟩
   ·rename_i hd
    obtain ⟨v,h1,h2⟩:=slK_nat hk
    exact ⟨v,h1,fun k=>by simp[*]⟩
   ·rename_i hd
    obtain ⟨v,h1,h2⟩:=ifK_nat hk
    exact ⟨v,h1,fun k=>by simp[*]⟩
   ·cases hk
 case unOp op _ x =>
  split at hk <;> first|(exact ⟨_,hk,fun k=>by simp[*]⟩)|cases hk
 case makeInterface t x =>
  split at hk <;> first|(exact ⟨_,hk,fun k=>by simp[*]⟩)|cases hk
 case convert s d x =>
  split at hk
  ·cases hk
  ·split at hk
   ·exact ⟨_,hk,fun k=>by simp[*]⟩
   ·split at hk
    ·exact ⟨_,hk,fun k=>by simp[*]⟩
    ·cases hk
   ·cases hk
 case fieldAddr s x f =>
  split at hk <;> try (first|cases hk)
  split at hk <;> try (first|cases hk)
  split at hk <;> try (first|cases hk)
  split at hk <;> first|(exact ⟨_,hk,fun k=>by simp_all⟩)|cases hk
 case field s x f =>
  split at hk <;> try (first|cases hk)
  split at hk <;> try (first|cases hk)
  obtain ⟨v,h1,h2⟩:=Hs hk
  exact ⟨v,h1,fun k=>by simp[*]⟩
 case indexAddr t x i =>
  unfold idxOf at hk ⊢
  split at hk <;> try (first|cases hk)
  split at hk <;> try (first|cases hk)
  ·split at hk <;> try (first|cases hk)
   obtain ⟨hb,hk⟩:=cd hk
   exact ⟨_,hk,fun k=>by simp_all [cw]⟩
  ·split at hk <;> try (first|cases hk)
   obtain ⟨hb,hk⟩:=cd hk
   exact ⟨_,hk,fun k=>by simp_all [cw]⟩
  ·split at hk <;> try (first|cases hk)
   obtain ⟨hb,hk⟩:=cd hk
   exact ⟨_,hk,fun k=>by simp_all [cw]⟩
  ·split at hk <;> try (first|cases hk)
   rename_i hc
   obtain ⟨hb,hk⟩:=cd hk
   exact ⟨_,hk,fun k=>by simp only[*,if_true,cw,cond_true]⟩
 case index t x i =>
  unfold idxOf at hk ⊢
  split at hk <;> try (first|cases hk)
  split at hk <;> try (first|cases hk)
  ·obtain ⟨hb,hk⟩:=cd hk
   exact ⟨_,hk,fun k=>by simp_all [cw]⟩
  ·obtain ⟨hb,hk⟩:=cd hk
   obtain ⟨v,h1,h2⟩:=Hs hk
   exact ⟨v,h1,fun k=>by simp_all [cw]⟩
 case slice t x lo hi mx =>
  split at hk <;> try (first|cases hk)
  split at hk <;> try (first|cases hk)
  ·rename_i hd hx
   obtain ⟨n,hk,e1⟩:=E1 hk
   obtain ⟨m,hk,e2⟩:=E1 hk
   obtain ⟨hb,hk⟩:=cd hk
   obtain ⟨VA,hk⟩:=cd hk
   exact ⟨_,hk,fun k=>by simp only[hd,hx,e1,e2,hb,VA,cw,cond_true]⟩
  ·rename_i hd hx
   split at hk <;> try (first|cases hk)
   rename_i hc
   obtain ⟨n,hk,e1⟩:=E1 hk
   split at hk
   ·obtain ⟨hb,hk⟩:=cd hk
    exact ⟨_,hk,fun k=>by simp only[hd,hx,hc,e1,hb,cw,cond_true,if_true]⟩
   ·obtain ⟨m,hk,e2⟩:=E1 hk
    obtain ⟨hb,hk⟩:=cd hk
    obtain ⟨VA,hk⟩:=cd hk
    exact ⟨_,hk,fun k=>by simp only[hd,hx,hc,e1,e2,hb,VA,cw,cond_true,if_true]⟩
  ·rename_i hd hx
   split at hk <;> try (first|cases hk)
   rename_i hc
   obtain ⟨n,hk,e1⟩:=E1 hk
   obtain ⟨m,hk,e2⟩:=E1 hk
   obtain ⟨hb,hk⟩:=cd hk
   exact ⟨_,hk,fun k=>by rw[if_neg hc]; simp only[e1,e2,hb,cw,cond_true]⟩
  ·rename_i hd hx
   split at hk <;> try (first|cases hk)
   rename_i hc
   obtain ⟨n,hk,e1⟩:=E1 hk
   obtain ⟨m,hk,e2⟩:=E1 hk
   obtain ⟨hb,hk⟩:=cd hk
   obtain ⟨VA,hk⟩:=cd hk
   exact ⟨_,hk,fun k=>by rw[if_neg hc]; simp only[e1,e2,hb,VA,cw,cond_true]⟩
 case makeFunc f first cap =>
  cases f <;> simp only at hk ⊢ <;> first|(exact ⟨_,hk,fun k=>rfl⟩)|cases hk
 case extract t i =>
  split at hk <;> try (first|cases hk)
  split at hk <;> try (first|cases hk)
  exact ⟨_,hk,fun k=>by simp[*]⟩
 case build t parts =>
  split at hk <;> try (first|cases hk)
  all_goals
   rename_i hd
   split at hk <;> try (first|cases hk)
   rename_i hc
   split at hk <;> try (first|cases hk)
   rename_i hf
   exact ⟨_,hk,fun k=>by rw[if_neg hc]⟩
 case call c =>
  split at hk <;> try (first|cases hk)
  ·split at hk <;> try (first|cases hk)
   split at hk <;> try (first|cases hk)
   all_goals exact ⟨_,hk,fun k=>by simp[*]⟩
  ·split at hk <;> try (first|cases hk)
   split at hk <;> try (first|cases hk)
   exact ⟨_,hk,fun k=>by simp[*]⟩
  ·split at hk <;> try (first|cases hk)
   split at hk <;> try (first|cases hk)
   exact ⟨_,hk,fun k=>by simp[*]⟩
def cm.rd:cm→cm
 | .tok | .dead => .free
 | ob=>ob
theorem rd_eq {a b:cm} (h:a.rd=b.rd):a=b∨((a = .tok∨a = .dead∨a = .free)∧(b = .tok∨b = .dead∨b = .free)):=by
 cases a <;> cases b <;> simp[cm.rd]at h ⊢ <;> exact h
theorem rd_cells {a b:cm} (h:a.rd=b.rd) {cs:List V} (hb:b = .cells cs):a = .cells cs:=by
 rcases rd_eq h with h|⟨_,h⟩
 ·rw[h,hb]
 ·rw[hb]at h; simp at h
theorem rd_bld {a b:cm} (h:a.rd=b.rd) {v:V} (hb:b = .mE v):a = .mE v:=by
 rcases rd_eq h with h|⟨_,h⟩
 ·rw[h,hb]
 ·rw[hb]at h; simp at h
theorem rd_row {a b:cm} (h:a.rd=b.rd) {T:Ty} {l:List T.den} (hb:b = .row T l):a = .row T l:=by
 rcases rd_eq h with h|⟨_,h⟩
 ·rw[h,hb]
 ·rw[hb]at h; simp at h
theorem rd_amap {a b:cm} (h:a.rd=b.rd) {K T:Ty} {l:List (K.den×T.den)} (hb:b = .Aj K T l):a = .Aj K T l:=by
 rcases rd_eq h with h|⟨_,h⟩
 ·rw[h,hb]
 ·rw[hb]at h; simp at h
theorem opR_nat {o:Op} {ρ:Operand→V} {lim:Option Nat} {k0:V→Option R} {r:R} (hk:opR tt o ρ h lim k0=some r) :
  ∃v,k0 v=some r∧∀(h2:aM),(∀i,Oe lim i=true→(h2.at i).rd=(h.at i).rd)→∀k:V→Option R,opR tt o ρ h2 lim k=k v:=by
 cases o <;> simp only[opR]at hk ⊢ <;> try (first|cases hk)
 case load t x =>
  split at hk <;> try (first|cases hk)
  ·split at hk <;> try (first|cases hk)
   rename_i hl
   split at hk <;> try (first|cases hk)
   all_goals rename_i hc
   ·obtain ⟨v,h1,h2⟩:=Hs hk
    exact ⟨v,h1,fun hh e k=>by have e':=rd_cells (e _ hl) hc; clear e; simp only[*,if_true]⟩
   ·obtain ⟨v,h1,h2⟩:=Hs hk
    exact ⟨v,h1,fun hh e k=>by have e':=rd_bld (e _ hl) hc; clear e; simp only[*,if_true]⟩
  ·obtain ⟨v,h1,h2⟩:=Hs hk
   exact ⟨v,h1,fun hh e k=>by simp only[*]⟩
  ·split at hk <;> try (first|cases hk)
   rename_i hl
   split at hk <;> try (first|cases hk)
   rename_i T l hc
   split at hk <;> try (first|cases hk)
   rename_i hs
   obtain ⟨hb,hk⟩:=cd hk
   obtain ⟨v,h1,h2⟩:=Hs hk
   exact ⟨v,h1,fun hh e k=>by have e':=rd_row (e _ hl) hc; clear e; simp only[*,if_true,cw,cond_true]⟩
 case lookup t x ix ok =>
  split at hk <;> try (first|cases hk)
  rename_i kt vt i h1 h2
  split at hk <;> try (first|cases hk)
  rename_i hl
  split at hk <;> try (first|cases hk)
  rename_i K T l hc
  split at hk <;> try (first|cases hk)
  rename_i hf
  split at hk <;> try (first|cases hk)
  rename_i kx hx
  refine ⟨bif ok then .tuple [elV T (mn K T kx l), .bool (Mh K T kx l)]else elV T (mn K T kx l),by cases ok <;> exact hk,fun hh e k => ?_⟩
  have e':=rd_amap (e _ hl) hc
  clear e
  simp only[h1,h2,hl,e',hf,hx,if_true]
  cases ok <;> rfl
 case convert s d x =>
  split at hk <;> try (first|cases hk)
  ·rename_i e i n h1 h2 h3
   split at hk <;> try (first|cases hk)
   rename_i hl
   split at hk <;> try (first|cases hk)
   rename_i h4 h5
   exact ⟨_,hk,fun hh e k=>by have e':=rd_row (e _ hl) h5; clear e; simp only[*,if_true]⟩
  ·rename_i h1 h2 h3
   split at hk <;> try (first|cases hk)
   ·rename_i h4
    exact ⟨_,hk,fun hh e k=>by simp only[*]⟩
   ·rename_i h4
    obtain ⟨hb,hk⟩:=cd hk
    exact ⟨_,hk,fun hh e k=>by simp only[*,cw,cond_true]⟩
  ·rename_i h1 h2 h3
   split at hk <;> try (first|cases hk)
   rename_i h4
   exact ⟨_,hk,fun hh e k=>by simp only[*]⟩
theorem opA_nat {o:Op} {ρ:Operand→V} {k0:cm→(Nat→V)→Option R} {r:R} (hk:opA tt o ρ k0=some r) :
  ∃ob mk,k0 ob mk=some r∧∀k:cm→(Nat→V)→Option R,opA tt o ρ k=k ob mk:=by
 cases o <;> simp only[opA]at hk ⊢ <;> try (first|cases hk)
 case alloc t =>
  split at hk
  ·exact ⟨_,_,hk,fun k=>by simp[*]⟩
  ·split at hk <;> try (first|cases hk)
   exact ⟨_,_,hk,fun k=>by simp[*]⟩
 case box t x =>
  split at hk <;> try (first|cases hk)
  split at hk <;> try (first|cases hk)
  exact ⟨_,_,hk,fun k=>by simp only[*,if_true]⟩
 case buildSlice t len parts =>
  split at hk <;> try (first|cases hk)
  split at hk <;> try (first|cases hk)
  rename_i hc
  split at hk <;> try (first|cases hk)
  ·rename_i h1 h2
   split at hk <;> try (first|cases hk)
   rename_i h3
   split at hk
   ·exact ⟨_,_,hk,fun k=>by simp only[*,if_true,if_false]; rfl⟩
   split at hk
   ·split at hk <;> try (first|cases hk)
    exact ⟨_,_,hk,fun k=>by simp only[*,if_true,if_false]; rfl⟩
   split at hk
   ·exact ⟨_,_,hk,fun k=>by simp only[*,if_true,if_false]; rfl⟩
   ·exact ⟨_,_,hk,fun k=>by simp only[*,if_true,if_false]; rfl⟩
  ·exact ⟨_,_,hk,fun k=>by simp only[*,if_true,if_false]; rfl⟩
 case makeSlice t n c =>
  split at hk <;> try (first|cases hk)
  split at hk <;> try (first|cases hk)
  split at hk <;> try (first|cases hk)
  split at hk <;> try (first|cases hk)
  rename_i h3
  obtain ⟨hb,hk⟩:=cd hk
  exact ⟨_,_,hk,fun k=>by simp only[*,if_true,cw,cond_true]⟩
 case convert s d x =>
  split at hk <;> try (first|cases hk)
  split at hk <;> try (first|cases hk)
  exact ⟨_,_,hk,fun k=>by simp[*]⟩
 case range t x =>
  split at hk <;> try (first|cases hk)
  exact ⟨_,_,hk,fun k=>by simp[*]⟩
 case makeMap t rsv =>
  split at hk <;> try (first|cases hk)
  rename_i h1
  split at hk <;> try (first|cases hk)
  rename_i kt vt h2
  split at hk <;> try (first|cases hk)
  rename_i K V' h3 h4
  split at hk <;> try (first|cases hk)
  rename_i h5
  exact ⟨_,_,hk,fun k=>by simp only[h1,h2,h3,h4,h5,if_true]⟩
theorem mapF {β:Type} {ρ ρ':Operand→V} (f:Nat→V→β) (ps:List (Nat×Operand)) (h:∀x∈ps.map (·.2),ρ x=ρ' x) :
  (ps.map fun (i,x)=>f i (ρ x))=(ps.map fun (i,x)=>f i (ρ' x)) :=
 List.map_congr_left fun p hm=>by
  obtain ⟨i,x⟩:=p
  simp only[h x (List.mem_map.2 ⟨(i,x),hm,rfl⟩)]
theorem opP_congr {o:Op} {ρ ρ':Operand→V} (h:∀x∈o.operands,ρ x=ρ' x) {k:V→Option R}:opP tt o ρ k=opP tt o ρ' k:=by
 cases o <;> simp only[Op.operands]at h <;> simp only[opP]
 case build t ps =>
  have hp:∀x∈ps.toList.map (·.2),ρ x=ρ' x:=fun x hx=>h x (by simpa using hx)
  split
  ·rename_i fs hd
   rw[mapF (fun i v=>((fs.getD i (0,0)).1,if i<fs.length then (tt.at (fs.getD i (0,0)).2).size else 1000000,v)) ps.toList hp]
  ·rename_i e hd
   rw[mapF (fun i v=>(i*(tt.at e).size,(tt.at e).size,v)) ps.toList hp]
  ·rfl
 case makeFunc f first cap =>
  cases f <;> simp only
  rw[List.map_congr_left (l:=first.toList) (g:=ρ') fun x hx=>h x (by simp at hx ⊢; exact .inl hx),List.map_congr_left (l:=cap.toList) (g:=ρ') fun x hx=>h x (by simp at hx ⊢; exact .inr hx)]
 case slice t x lo hi mx=>cases lo <;> cases hi <;> cases mx <;> simp_all
 case call c =>
  obtain ⟨callee,args,argTypes⟩:=c
  have ha:∀x∈args.toList,ρ x=ρ' x:=fun x hx=>h x (by simp[Call.operands]at hx ⊢; exact .inr hx)
  simp only
  split
  ·rename_i x e; rw[ha x (by rw[e]; simp)]
  ·rename_i x y e; rw[ha x (by rw[e]; simp),ha y (by rw[e]; simp)]
  ·rename_i x y e; rw[ha x (by rw[e]; simp),ha y (by rw[e]; simp)]
  ·rfl
 all_goals (first|rfl|(simp_all; done))
theorem opR_congr {o:Op} {ρ ρ':Operand→V} (h':∀x∈o.operands,ρ x=ρ' x) {lim:Option Nat} {k:V→Option R}:opR tt o ρ h lim k=opR tt o ρ' h lim k:=by
 cases o <;> simp only[Op.operands]at h' <;> simp only[opR]
 all_goals (first|rfl|(simp_all; done))
theorem opA_congr {o:Op} {ρ ρ':Operand→V} (h':∀x∈o.operands,ρ x=ρ' x) {k:cm→(Nat→V)→Option R}:opA tt o ρ k=opA tt o ρ' k:=by
 cases o <;> simp only[Op.operands]at h' <;> simp only[opA]
 case makeMap t rsv =>
  have e:K4 ρ rsv=K4 ρ' rsv:=by
   cases rsv with
   | none=>rfl
   | some x=>simp only[K4]; rw[h' x (by simp)]
  rw[e]
 case buildSlice t len ps =>
  have hp:∀x∈ps.toList.map (·.2),ρ x=ρ' x:=fun x hx=>h' x (by simpa using hx)
  split
  ·rename_i e hd
   rw[mapF (fun i v=>(i*(tt.at e).size,(tt.at e).size,v)) ps.toList hp]
  ·rfl
 all_goals (first|rfl|(simp_all; done))
theorem opW_congr {o:Op} {ρ ρ':Operand→V} (h':∀x∈o.operands,ρ x=ρ' x) {id:Nat} {k:V→aM→Option R}:YI tt o ρ h id k=YI tt o ρ' h id k:=by
 cases o <;> simp only[Op.operands]at h' <;> simp only[YI]
 case call c =>
  obtain ⟨callee,args,argTypes⟩:=c
  have ha:∀x∈args.toList,ρ x=ρ' x:=fun x hx=>h' x (by simp[Call.operands]at hx ⊢; exact .inr hx)
  simp only
  split
  ·rename_i x y t xt e et; rw[ha x (by rw[e]; simp),ha y (by rw[e]; simp)]
  ·rfl
 case slice t x lo hi mx=>cases lo <;> cases hi <;> cases mx <;> simp_all
 all_goals (first|rfl|(simp_all; done))
end
section
variable {P:Program} {tt:dd} {w w':World} {h h':aM} {c c':jI} {R:Type}
theorem GW:∀(l:List Nat) (h:aM),Ext w h c w (oC h l) c
 | [],h => .refl _ _ _
 | i::l,h=>by
  simp only[oC]
  split
  ·exact (HG i).trans (GW l _)
  ·exact GW l h
theorem Jp:∀(l:List Nat) (h:aM),WF w h c→WF w (oC h l) c
 | [],h,wf=>wf
 | i::l,h,wf=>by
  simp only[oC]
  split
  ·exact Jp l _ (Yg wf i)
  ·exact Jp l h wf
theorem E2:∀(l:List Nat) (h:aM) (j:Nat),aM.at (oC h l) j=h.at j∨aM.at (oC h l) j = .dead
 | [],h,j => .inl rfl
 | i::l,h,j=>by
  simp only[oC]
  split
  ·rcases E2 l (h.set i .dead) j with e|e
   ·rw[e,mr]
    split
    ·exact .inr rfl
    ·exact .inl rfl
   ·exact .inr e
  ·exact E2 l h j
theorem Pl:∀(l:List Nat) (h:aM) (j:Nat) {T:Ty} {m:List T.den},j∈l→h.at j = .row T m→aM.at (oC h l) j = .dead
 | [],_,_,_,_,hj,_=>by cases hj
 | i::l,h,j,T,m,hj,he=>by
  simp only[oC]
  by_cases AT:i=j
  ·subst AT
   split
   ·rcases E2 l (h.set i .dead) i with e|e
    ·rw[e]; exact lL _ (aM.gF he (by simp))
    ·exact e
   ·rename_i hn; exact (hn T m he).elim
  ·have hj':j∈l:=by
    rcases List.mem_cons.1 hj with rfl|h
    ·exact (AT rfl).elim
    ·exact h
   split
   ·exact Pl l _ j hj' (by rw[cG _ AT]; exact he)
   ·exact Pl l h j hj' he
theorem Un (h:aM):∀l:List V,V.WG h l=l.map (V.shut h)
 | []=>rfl
 | v::l=>by simp only[V.WG,List.map_cons,Un h l]
theorem xk.dead {ids:List Nat} {b x:Nat} (ho:xk (oC h ids) c b x):xk h c b x:=by
 obtain ⟨i,f,g1,g2,g3⟩:=ho
 rcases E2 ids h i with e|e
 ·exact ⟨i,f,g1,e▸g2,g3⟩
 ·rw[e]at g2; cases g2
theorem shut_rep (wf:WF w h c) {ids:List Nat} {v:V} {d:Value} (r:dx w h c v d):(∀i∈v.ids,i∈ids)→dx w (oC h ids) c (v.shut h) d:=by
 have x:=GW (w:=w) (c:=c) ids h
 induction r with
 | sl f iN tf hc hr D1 l9=>exact fun _=>(dx.sl (t := .no) f iN tf hc hr (by simp) (by simp)).mono x
 | @row i n v hi hn hv =>
  intro Ze
  simp only[V.shut]
  split
  ·rename_i T l he
   obtain ⟨A,cap,rfl,hA,hv⟩:=hv
   obtain ⟨hnl,hle,tf,hor⟩:=hv T l he
   obtain ⟨ds,rds,Dn⟩:=Yh wf he
   subst hnl
   refine EZ (rds.mono x) hle tf (fun hl => ?_) (by simp) (by simp)
   obtain ⟨b,hb,EG⟩:=Dn hl
   rcases hor with ⟨h1,_⟩|⟨b',arr,e,fz,h1,h2,h3,h4⟩
   ·rw[hb]at h1; cases h1
   ·rw[hb]at h1; cases h1
    refine ⟨b,c.off i,h2,EG,fun y hy1 hy2 => ?_⟩
    have l9:xk h c b y:=⟨i,0,hb,by rw[he]; rfl,Nat.zero_le _⟩
    refine ⟨fun ho => ?_,wf.C8 b y l9⟩
    obtain ⟨j,f,g1,g2,g3⟩:=ho
    have hdead:=Pl ids h i (Ze i (by simp[V.ids])) he
    rcases E2 ids h j with e'|e'
    ·have hlj:(h.at j).live:=by rw[e']at g2; exact uN g2
     have:=wf.inj i j b (by rw[he]; trivial) hlj hb g1
     subst this
     rw[hdead]at g2
     cases g2
    ·rw[e']at g2; cases g2
  ·exact .undef _
 | @agg cs y hl _ ih =>
  intro Ze
  simp only[V.shut,Un]
  refine .agg (by simpa using hl) fun j v d hv hd => ?_
  rw[List.getElem?_map]at hv
  cases e:cs[j]? with
  | none=>rw[e]at hv; cases hv
  | some u =>
   rw[e]at hv; simp at hv; subst hv
   exact ih j u d e hd fun i hi=>Ze i (by simp only[V.ids]; exact uk.2 ⟨j,u,e,hi⟩)
 | @tuple cs y hl _ ih =>
  intro Ze
  simp only[V.shut,Un]
  refine .tuple (by simpa using hl) fun j v d hv hd => ?_
  rw[List.getElem?_map]at hv
  cases e:cs[j]? with
  | none=>rw[e]at hv; cases hv
  | some u =>
   rw[e]at hv; simp at hv; subst hv
   exact ih j u d e hd fun i hi=>Ze i (by simp only[V.ids]; exact uk.2 ⟨j,u,e,hi⟩)
 | undef v=>exact fun _ => .undef _
 | int hn=>exact fun _ => .int hn
 | bool b=>exact fun _ => .bool b
 | str hl=>exact fun _ => .str hl
 | ir=>exact fun _ => .ir
 | cx=>exact fun _ => .cx
 | fC=>exact fun _ => .fC
 | pz=>exact fun _ => .pz
 | dJ=>exact fun _ => .dJ
 | iface t v=>exact fun _ => .iface t v
 | SW hn=>exact fun _ => .SW hn
 | wz hi hn hv=>exact fun _=>(dx.wz hi hn hv).mono x
 | RN b=>exact fun _ => .RN b
 | ptr hi hv=>exact fun _=>(dx.ptr hi hv).mono x
 | map hi hv=>exact fun _=>(dx.map hi hv).mono x
 | xi hi hv=>exact fun _=>(dx.xi hi hv).mono x
 | Ai f hc hr _=>exact fun _=>(dx.Ai f hc hr).mono x
 | Xv hn tf f hc hr _=>exact fun _=>(dx.Xv hn tf f hc hr).mono x
 | func ha hb hra hrb _ _=>exact fun _=>(dx.func ha hb hra hrb).mono x
theorem shutL_rep (wf:WF w h c) {vs:List V} {ds:List Value} (r:cC w h c vs ds):cC w (oC h (V.xj vs)) c (V.WG h vs) ds:=by
 rw[Un]
 refine ⟨by simpa using r.1,fun j v d hv hd => ?_⟩
 rw[List.getElem?_map]at hv
 cases e:vs[j]? with
 | none=>rw[e]at hv; cases hv
 | some u =>
  rw[e]at hv; simp at hv; subst hv
  exact shut_rep wf (r.2 j u d e hd) fun i hi=>uk.2 ⟨j,u,e,hi⟩
theorem canon_rep {t:Nat} {v:V} {d:Value} (r:dx w h c v d):dx w h c (canon tt t v) d:=by
 unfold canon
 split
 ·rename_i T hT
  split
  ·rename_i cs
   split
   ·rename_i x hx
    split
    ·cases r with
     | @agg _ y hl hr =>
      have rl:cC w h c cs y.toList:=⟨by simpa using hl,fun j v d hv hd=>hr j v d hv (by simpa using hd)⟩
      have:=Rm hx rl
      exact .agg (by simpa using this.1) fun j v d hv hd=>this.2 j v d hv (by simpa using hd)
    ·exact r
   ·exact r
  ·split
   ·rename_i x hx
    split
    ·exact r
    ·have:=Rm hx (cC.cons r cC.nil)
     split
     ·rename_i e he
      rw[he]at this
      exact this.head
     ·exact r
   ·exact r
 ·split
  ·split
   ·split
    ·rename_i l hl; exact Y0 r hl
    ·exact r
   ·exact r
  ·exact r
theorem Zf:∀(ts:List Nat) {vs:List V} {ds:List Value},cC w h c vs ds→cC w h c (SY tt ts vs) ds
 | [],vs,ds,r=>by simpa [SY]using r
 | t::ts, [],ds,r=>by simpa [SY]using r
 | t::ts,v::vs, [],r=>by have:=r.1; simp at this
 | t::ts,v::vs,d::ds,r => .cons (canon_rep r.head) (Zf ts r.tail)
theorem VR {v:V} {d:Value} (hs:v.scal1=true) (r:dx w h c v d):dx w' h' c' v d:=by
 cases r <;> simp only[V.scal1]at hs <;> try (first|cases hs)
 case int hn=>exact .int hn
 case bool b=>exact .bool b
 case str hl=>exact .str hl
 case ir=>exact .ir
 case cx=>exact .cx
 case fC=>exact .fC
 case pz=>exact .pz
 case dJ=>exact .dJ
 case iface t v=>exact .iface t v
 case SW hn=>exact .SW hn
theorem scal_rep {v:V} {d:Value} (hs:v.scal=true) (r:dx w h c v d):dx w' h' c' v d:=by
 cases r
 case agg hl hr =>
  simp only[V.scal,List.all_eq_true]at hs
  exact .agg hl fun j v d hv hd=>VR (hs v (List.mem_of_getElem? hv)) (hr j v d hv hd)
 case tuple hl hr =>
  simp only[V.scal,List.all_eq_true]at hs
  exact .tuple hl fun j v d hv hd=>VR (hs v (List.mem_of_getElem? hv)) (hr j v d hv hd)
 all_goals first
  | exact VR (w:=w) (h:=h) (c:=c) hs (by constructor <;> assumption)
  | (simp only[V.scal,V.scal1]at hs; cases hs)
theorem still_ext {c1 c2:jI} (wf:WF w h c) (x:Ext w [] c1 w' h' c2):Ext w h c w' h c∧WF w' h c:=by
 have nown:∀b y, ¬xk ([]:aM) c1 b y:=fun b y ho=>by
  obtain ⟨i,f,_,g2,_⟩:=ho
  simp[aM.at,cm.from_]at g2
 have hx:Ext w h c w' h c := {
  os:=x.os
  tape:=x.tape
  output:=x.output
  size:=x.size
  used:=fun _ hi=>hi
  same:=fun i hi hd=>⟨by have h2:=hi.2; revert hd h2; cases h.at i <;> simp[cm.iG],rfl,rfl⟩
  cell:=fun b y hb _=>x.cell b y hb (nown b y)
  block:=fun b hb _=>x.block b hb (nown b)
  Bp:=fun _ _ _ ho=>ho
  ext:=rfl
  arr:=x.arr }
 refine ⟨hx,?_,fun b y hb=>Nat.lt_of_lt_of_le (wf.rG b y hb) x.size,fun i hi => ?_,wf.inj,wf.vP hx⟩
 ·exact wf.C8
 ·by_cases hl:(h.at i).live
  ·exact (wf.obj i hi).uY hx (fun b hb=>x.block b ((wf.obj i hi).lt hl hb) (nown b)) rfl rfl
  ·have h0:h.at i = .free∨h.at i = .dead:=by revert hl; cases h.at i <;> simp[cm.live]
   rcases h0 with h0|h0 <;> rw[h0] <;> trivial
end
section
variable {P:Program} {tt:dd} {w w':World} {h h':aM} {c c':jI} {R:Type}
def BI (P:Program) (g:Nat) (args:Array Value) (w:World) (Q:Value→World→Prop):Prop :=
 ∃nx w1,(callFunc g args).run P w = .ok nx w1 ∧
  match nx with
  | .value d=>Q d w1
  | .enter f xs=>Calls P f xs w1 fun e w'=>∃d,e = .returned d∧Q d w'
  | .row row xs=>Rows P row xs w1 Q
  | _=>False
theorem BI.mono {g:Nat} {args:Array Value} {Q Q':Value→World→Prop} (h:BI P g args w Q) (hq:∀d w',Q d w'→Q' d w'):BI P g args w Q':=by
 obtain ⟨nx,w1,h1,h2⟩:=h
 refine ⟨nx,w1,h1,?_⟩
 cases nx <;> simp only at h2 ⊢
 ·exact hq _ _ h2
 ·exact Calls.mono h2 fun e w' ⟨d,e1,q⟩=>⟨d,e1,hq _ _ q⟩
 ·exact Rows.mono h2 fun d w' q=>hq _ _ q
def Spec.Ok (P:Program) (g:Nat) (sp:Spec R):Prop :=
 ∀vs h k r,sp vs h k=some r→∀(w:World) (c:jI) (args:Array Value),WF w h c→cC w h c vs args.toList →
  BI P g args w fun d w'=>∃v h' c',WF w' h' c'∧Ext w h c w' h' c'∧dx w' h' c' v d∧k v h'=some r
def Spec.OkAt (P:Program) (g m:Nat) (sp:Spec R):Prop :=
 ∀vs h k r,h.length=m→sp vs h k=some r→∀(w:World) (c:jI) (args:Array Value),WF w h c→cC w h c vs args.toList →
  BI P g args w fun d w'=>∃v h' c',WF w' h' c'∧Ext w h c w' h' c'∧dx w' h' c' v d∧k v h'=some r
def Pm (sp:Spec R):Prop:=∀vs h k k',(∀v,k v h=k' v h)→sp vs h k=sp vs h k'
def EOk (P:Program) (E:Env R):Prop:=∀g b sp,E g=some (b,sp)→Spec.Ok P g sp∧(b=false→pg.soft g=true→Pm sp)
theorem Pm.same {sp:Spec R} (hs:Pm sp) {vs:List V} {k:V→aM→Option R} {r:R} (hk:sp vs h k=some r):∃k',sp vs h k'=some r∧∀v h',k' v h'=some r→h'=h∧k v h=some r:=by
 classical
 refine ⟨fun v h'=>if h'=h then k v h else none,?_,fun v h' e => ?_⟩
 ·rw[←hk]
  exact hs _ _ _ _ fun v=>by simp
 ·simp only at e
  split at e
  ·exact ⟨‹_›,e⟩
  ·cases e
theorem Spec.OkAt.of_body {g m:Nat} {sp:Spec R} {fn:Func} (hf:P.funcs[g]? = some fn) (hn:(fn.name == "runtime.NumGoroutine")=false) (hb:fn.body.isNone=false)
  (hs:∀vs h k r,h.length=m→sp vs h k=some r→∀(w:World) (c:jI) (args:Array Value),WF w h c→cC w h c vs args.toList →
   Calls P g args w fun e w'=>∃d,e = .returned d∧∃v h' c',WF w' h' c'∧Ext w h c w' h' c'∧dx w' h' c' v d∧k v h'=some r):Spec.OkAt P g m sp:=by
 intro vs h k r hml hk w c args wf ra
 refine ⟨.enter g args,w,?_,hs vs h k r hml hk w c args wf ra⟩
 have hn':fn.name ≠ "runtime.NumGoroutine" :=by simpa using hn
 have ph:fn.body≠none:=fun e=>by rw[e]at hb; cases hb
 simp[callFunc,hf,hn',ph]
theorem none_ids:∀ {v:V},v.ids = []→∀ρ,v.rU ρ=v:=by
 have key:(∀v:V,v.ids = []→∀ρ,v.rU ρ=v)∧∀l:List V,V.xj l = []→∀ρ,V.DZ ρ l=l:=by
  refine ⟨fun v => ?_,fun l => ?_⟩
  ·refine V.rec (motive_1:=fun v=>v.ids = []→∀ρ,v.rU ρ=v) (motive_2:=fun l=>V.xj l = []→∀ρ,V.DZ ρ l=l) ?_ ?_ ?_ ?_ ?_ ?_ ?_ ?_ ?_ ?_ ?_ ?_ ?_ ?_ ?_ ?_ ?_ ?_ ?_ ?_ ?_ ?_ ?_ ?_ ?_ v <;> first
    | (intros; rfl)
    | (intros; simp_all [V.ids,V.xj,V.rU,V.DZ]; done)
    | skip
   ·intro T l t ht ρ
    cases t <;> simp_all [V.ids,V.rU,Tok.rU]
  ·refine V.rec_1 (motive_1:=fun v=>v.ids = []→∀ρ,v.rU ρ=v) (motive_2:=fun l=>V.xj l = []→∀ρ,V.DZ ρ l=l) ?_ ?_ ?_ ?_ ?_ ?_ ?_ ?_ ?_ ?_ ?_ ?_ ?_ ?_ ?_ ?_ ?_ ?_ ?_ ?_ ?_ ?_ ?_ ?_ ?_ l <;> first
    | (intros; rfl)
    | (intros; simp_all [V.ids,V.xj,V.rU,V.DZ]; done)
    | skip
   ·intro T l t ht ρ
    cases t <;> simp_all [V.ids,V.rU,Tok.rU]
 exact fun {v} hv ρ=>key.1 v hv ρ
theorem Zg (h:aM):h.back [] []=h:=by simp[aM.back,aM.FK]
def xI (al:Bool) (id:Nat) (h h':aM):Prop:=h.length≤h'.length∧∀j,(al=true→j≠id)→j<h.length→h.at j = .free→h'.at j = .free
theorem back_keeps {ord:List Nat} (KZ:ord.Nodup) (hu:∀i∈ord,Used h i) (hle:ord.length≤h'.length):xI false 0 h (h.back ord h'):=by
 refine ⟨by simp[aM.back,fU],fun j _ hj hf => ?_⟩
 have hn:j∉ord:=fun hm=>(hu j hm).2 hf
 rcases Jo (c:=⟨fun _=>none,fun _=>0,⟨fun _ _=>False⟩⟩) (c':=⟨fun _=>none,fun _=>0,⟨fun _ _=>False⟩⟩) KZ (fun i hi=>(hu i hi).1) hle j with ⟨i,h1,h2,_⟩|⟨_,_,h3,_⟩|⟨h1,_⟩
 ·unfold qD at h1
  split at h1
  ·rename_i hi
   simp only[List.getD,List.getElem?_eq_getElem hi,Option.getD_some]at h1
   exact (hn (h1▸List.getElem_mem hi)).elim
  ·omega
 ·rw[h3]; exact hf
 ·simp[aM.back,fU]at h1; omega
theorem ev_rep {st:List V} {a:Act} (r:cC w h c st a.tmps.toList) (x:Operand):dx w h c (ev st x) (a.eval x):=by
 cases x with
 | tmp t =>
  have:=r.getD t undef
  simpa [ev,Act.eval,List.getD,Array.getD_eq_getD_getElem?]using this
 | const v=>exact WI v
 | global g=>exact .undef _
 | func f=>exact .func rfl rfl (by simp) (by simp)
theorem dropTok1_rep {v:V} {d:Value} (r:dx w h c v d):dx w h c (YJ v) d:=by
 cases r with
 | sl f iN tf hc hr D1 l9=>exact .sl f iN tf hc hr (by simp) (by simp)
 | _=>simp only[YJ]; constructor <;> assumption
theorem WN {v:V} {d:Value} (r:dx w h c v d):dx w h c (Mi v) d:=by
 cases r with
 | sl f iN tf hc hr D1 l9=>exact .sl f iN tf hc hr (by simp) (by simp)
 | @agg cs x hl hr =>
  refine .agg (by simpa using hl) fun j v d hv hd => ?_
  rw[List.getElem?_map]at hv
  cases e:cs[j]? with
  | none=>rw[e]at hv; cases hv
  | some u=>rw[e]at hv; simp at hv; subst hv; exact dropTok1_rep (hr j u d e hd)
 | _=>simp only[Mi]; constructor <;> assumption
theorem dropTokL_rep {vs:List V} {ds:List Value} (r:cC w h c vs ds):cC w h c (vs.map Mi) ds:=by
 refine ⟨by simpa using r.1,fun j v d hv hd => ?_⟩
 rw[List.getElem?_map]at hv
 cases e:vs[j]? with
 | none=>rw[e]at hv; cases hv
 | some u=>rw[e]at hv; simp at hv; subst hv; exact WN (r.2 j u d e hd)
theorem renL_none {vs:List V} (h:V.xj vs = []) (ρ:Nat→Option Nat):V.DZ ρ vs=vs:=by
 have:∀v∈vs,v.rU ρ=v:=fun v hv=>by
  refine none_ids ?_ _
  cases hi:v.ids with
  | nil=>rfl
  | cons i l =>
   obtain ⟨j,hj⟩:=List.mem_iff_getElem?.1 hv
   have:i∈V.xj vs:=uk.2 ⟨j,v,hj,by rw[hi]; simp⟩
   rw[h]at this; cases this
 rw[Yj]
 conv=>rhs; rw[←List.map_id vs]
 exact List.map_congr_left this
theorem callK_sound {E:Env R} (hE:EOk P E) (wf:WF w h c) {o:Oper} {cl:Call} (ho:o.op = .call cl) {ρ:Operand→V} {ρ':Operand→Value} (hρ:∀x,dx w h c (ρ x) (ρ' x)) {full:Bool}
  {k:V→aM→Option R} {r:R} (hk:Dm tt E full cl ρ h k=some r) :
  ∃g args,(execOp ρ' o).run P w=(callFunc g args).run P w∧BI P g args w fun d w' =>
   ∃v h' c',WF w' h' c'∧Ext w h c w' h' c'∧dx w' h' c' v d∧k v h'=some r∧xI false 0 h h'∧(full=false→h'=h):=by
 obtain ⟨dst,op,type,pos,after,guard⟩:=o
 simp only at ho
 subst ho
 unfold Dm at hk
 split at hk <;> try (first|cases hk)
 rename_i f hf
 split at hk <;> try (first|cases hk)
 rename_i g first cap hg
 have rf:=hρ f
 rw[hg]at rf
 generalize hdf:ρ' f=df at rf
 cases rf with
 | @func _ _ _ x y ha hb hra hrb =>
  have rargs:cC w h c (first++cl.args.toList.map ρ++cap) (x++cl.args.map ρ'++y).toList:=by
   have e:(x++cl.args.map ρ'++y).toList=x.toList++cl.args.toList.map ρ'++y.toList:=by simp
   rw[e]
   refine cC.append (cC.append ⟨by simpa using ha,fun j v d hv hd=>hra j v d hv (by simpa using hd)⟩ (cC.map _ fun z _=>hρ z)) ⟨by simpa using hb,fun j v d hv hd=>hrb j v d hv (by simpa using hd)⟩
  have rplain:cC w h c ((first++SY tt cl.argTypes.toList (cl.args.toList.map ρ)++cap).map Mi) (x++cl.args.map ρ'++y).toList:=by
   have e:(x++cl.args.map ρ'++y).toList=x.toList++cl.args.toList.map ρ'++y.toList:=by simp
   rw[e]
   refine dropTokL_rep (cC.append (cC.append ⟨by simpa using ha,fun j v d hv hd=>hra j v d hv (by simpa using hd)⟩ (Zf _ (cC.map _ fun z _=>hρ z))) ⟨by simpa using hb,fun j v d hv hd=>hrb j v d hv (by simpa using hd)⟩)
  simp only at hk
  refine ⟨g,x++cl.args.map ρ'++y,by simp[execOp,resolve,hf,hdf,Deferred.ofValue,invoke],?_⟩
  generalize (first++SY tt cl.argTypes.toList (cl.args.toList.map ρ)++cap).map Mi=ps at *
  generalize first++cl.args.toList.map ρ++cap=vs at *
  split at hk <;> try (first|cases hk)
  ·-- a plain one
   rename_i sp hsp
   split at hk
   ·rename_i Ze
    have ra:=S8 (ord := []) rplain
    rw[renL_none Ze]at ra
    refine BI.mono ((hE g _ sp hsp).1 _ _ _ _ hk w _ _ (VP (ord := []) wf List.nodup_nil) ra) fun d w' ⟨v,h',c',wf',x,rv,ui⟩ => ?_
    obtain ⟨k1,k2,k3⟩:=call_back wf (ord := []) (by simp) (by simp) wf' x
    split at ui <;> try (first|cases ui)
    refine ⟨v,h,c.back [] h.length c',?_,?_,?_,ui,⟨Nat.le_refl _,fun j _ _ hf=>hf⟩,fun _=>rfl⟩
    ·rw[Zg]at k1; exact k1
    ·rw[Zg]at k2; exact k2
    ·have:=rv.rU k3
     rw[Zg]at this
     rw[none_ids]at this
     ·exact this
     ·cases hi:v.ids with
      | nil=>rfl
      | cons i l =>
       have:=rv.E0 i (by rw[hi]; simp)
       exact (Nat.not_lt_zero _ this.1).elim
   ·cases full with
    | false=>cases hk
    | true =>
     simp only[cond_true]at hk
     unfold lendK at hk
     split at hk <;> try (first|cases hk)
     rename_i Ze
     have ra:=S8 (ord := []) (shutL_rep wf rplain)
     rw[renL_none Ze]at ra
     refine BI.mono ((hE g _ sp hsp).1 _ _ _ _ hk w _ _ (VP (ord := []) (Jp _ _ wf) List.nodup_nil) ra) fun d w' ⟨v,h',c',wf',x,rv,ui⟩ => ?_
     split at ui <;> try (first|cases ui)
     cases hs:v.scal with
     | false=>rw[hs]at ui; cases ui
     | true =>
      rw[hs]at ui
      obtain ⟨hx,hw⟩:=still_ext wf x
      exact ⟨v,h,c,hw,hx,scal_rep hs rv,ui,⟨Nat.le_refl _,fun j _ _ hf=>hf⟩,fun _=>rfl⟩
  ·rename_i sp hsp
   cases full with
   | false=>cases hk
   | true =>
    simp only[cond_true]at hk
    cases hso:pg.soft g with
    | true =>
     rw[hso]at hk
     simp only[cond_true]at hk
     obtain ⟨k',hk1,Rj⟩:=((hE g _ sp hsp).2 rfl hso).same hk
     refine BI.mono ((hE g _ sp hsp).1 _ _ _ _ hk1 w _ _ wf rargs) fun d w' ⟨v,h',c',wf',x,rv,ui⟩ => ?_
     obtain ⟨rfl,hk3⟩:=Rj _ _ ui
     exact ⟨v,_,c',wf',x,rv,hk3,⟨Nat.le_refl _,fun j _ _ hf=>hf⟩,fun _=>rfl⟩
    | false =>
    rw[hso]at hk
    simp only[cond_false]at hk
    have hui:=rargs.E0
    generalize V.xj vs=ids at *
    have hu:∀i∈reach h 64 ids [],Used h i:=S7 wf _ _ _ hui (by simp)
    have KZ:(reach h 64 ids []).Nodup:=Jn h _ _ _ (by simp)
    refine BI.mono ((hE g _ sp hsp).1 _ _ _ _ hk w _ _ (VP wf KZ) (S8 rargs)) fun d w' ⟨v,h',c',wf',x,rv,ui⟩ => ?_
    obtain ⟨k1,k2,k3⟩:=call_back wf KZ hu wf' x
    have hle:(reach h 64 ids []).length≤h'.length:=by
     rcases Nat.eq_zero_or_pos (reach h 64 ids []).length with h0|h0
     ·omega
     ·have:=(x.used ((reach h 64 ids []).length - 1) ⟨by simp[aM.pick]; omega,by
       rw[vR,List.getElem?_eq_getElem (by omega)]
       simp only[ne_eq,HK]
       exact (hu _ (List.getElem_mem _)).2⟩).1
      omega
    exact ⟨_,_,_,k1,k2,rv.rU k3,ui,back_keeps KZ hu hle,fun hd'=>by cases hd'⟩
end
section
variable {tt:dd} {h:aM} {R:Type}
theorem srcOf_set {T:Ty} {x:V} {id ix:Nat} {ob:cm} (hx:lowX id x=true) (je:id<ix):WE T (h.set ix ob) x=WE T h x:=by
 cases x <;> simp only[WE]
 case row i n =>
  simp only[lowX,decide_eq_true_eq]at hx
  rw[cG _ (by omega)]
 case wz i z q n =>
  simp only[lowX,decide_eq_true_eq]at hx
  rw[cG _ (by omega)]
theorem viewOk_set {x:V} {id ix:Nat} {ob:cm} (hx:lowX id x=true) (je:id<ix):VE (h.set ix ob) x=VE h x:=by
 cases x <;> simp only[VE]
 case wz i z q n =>
  simp only[lowX,decide_eq_true_eq]at hx
  rw[cG _ (by omega)]
theorem appendK_set {e base id ix:Nat} {s x:V} {ob:cm} {k:V→aM→Option R} (hs:lowS base id s=true) (hx:lowX id x=true) (je:id<ix) :
  o3 tt e s x (h.set ix ob) id k=o3 tt e s x h id fun v h'=>k v (h'.set ix ob):=by
 have hc:∀(h:aM) (o1:cm),(h.set ix ob).set id o1=(h.set id o1).set ix ob:=fun h o1=>List.set_comm _ _ (by omega)
 unfold o3
 rw[viewOk_set hx je]
 congr 1
 unfold zk
 cases (tt.at e).ty with
 | none=>rfl
 | some T =>
  simp only[srcOf_set hx je]
  split
  ·cases WE T h x with
   | none=>rfl
   | some m =>
    cases s with
    | cx =>
     simp only[hc]
    | sl T' l tk =>
     simp only
     split
     ·cases tk with
      | no=>rfl
      | nil=>simp only[hc]
      | own i =>
       simp only[lowS,decide_eq_true_eq]at hs
       simp only
       rw[cG _ (by omega)]
       have hci:∀o1:cm,(h.set ix ob).set i o1=(h.set i o1).set ix ob:=fun o1=>List.set_comm _ _ (by omega)
       simp only[hci,hc]
     ·rfl
    | row i n =>
     simp only[lowS,Bool.and_eq_true,decide_eq_true_eq]at hs
     simp only
     rw[cG _ (by omega)]
     have hci:∀o1:cm,(h.set ix ob).set i o1=(h.set i o1).set ix ob:=fun o1=>List.set_comm _ _ (by omega)
     simp only[hci,hc]
    | _=>rfl
  ·rfl
theorem appendK_mono {e base id:Nat} {s x:V} {k k':V→aM→Option R} (hb:base≤id) (hs:lowS base id s=true) (hk:∀v h',(∀i,i<base→(h'.at i).rd=(h.at i).rd)→k v h'=k' v h') :
  o3 tt e s x h id k=o3 tt e s x h id k':=by
 have h1:∀v o1,k v (h.set id o1)=k' v (h.set id o1):=fun v o1=>hk v _ fun i hi=>by rw[cG _ (by omega)]
 unfold o3
 congr 1
 unfold zk
 cases (tt.at e).ty with
 | none=>rfl
 | some T =>
  simp only
  split
  ·cases WE T h x with
   | none=>rfl
   | some m =>
    cases s with
    | cx=>simp only[h1]
    | sl T' l tk =>
     simp only
     split
     ·cases tk with
      | no=>rfl
      | nil=>simp only[h1]
      | own i =>
       simp only[lowS,decide_eq_true_eq]at hs
       simp only
       have h2:h.at i = .tok→∀v o1,k v ((h.set i .dead).set id o1)=k' v ((h.set i .dead).set id o1):=fun ht v o1=>hk v _ fun j hj=>by
        rw[cG _ (by omega)]
        by_cases e:i=j
        ·subst e
         rw[ht,mr]
         split <;> simp[cm.rd,ht]
        ·rw[cG _ e]
       cases ht:h.at i <;> try rfl
       simp only[h2 ht]
     ·rfl
    | row i n =>
     simp only[lowS,Bool.and_eq_true,decide_eq_true_eq]at hs
     have hbi:=Nat.le_of_ble_eq_true hs.1
     have h2:∀v o1,k v ((h.set i .dead).set id o1)=k' v ((h.set i .dead).set id o1):=fun v o1=>hk v _ fun j hj=>by
      rw[cG _ (by omega),cG _ (by omega)]
     simp only[h2]
    | _=>rfl
  ·rfl
theorem app_inv {o:Op} (ha:uh o=true):∃c,o = .call c∧c.callee = .builtin .append:=by
 unfold uh at ha
 split at ha <;> try (first|cases ha)
 rename_i c
 refine ⟨c,rfl,?_⟩
 revert ha
 split
 ·intro _; assumption
 ·intro h; cases h
theorem Mv {o:Op} (ha:uh o=true):fy tt o = .W:=by
 obtain ⟨c,rfl,hc⟩:=app_inv ha
 simp only[fy,hc]
theorem lowApp_congr {base:Nat} {o:Op} {ρ ρ':Operand→V} {id:Nat} (h':∀x∈o.operands,ρ x=ρ' x):J2 base o ρ id=J2 base o ρ' id:=by
 unfold J2
 split
 ·rename_i c
  have ha:∀x∈c.args.toList,ρ x=ρ' x:=fun x hx=>h' x (by simp[Op.operands,Call.operands]at hx ⊢; exact .inr hx)
  split
  ·rename_i s x e
   rw[ha s (by rw[e]; simp),ha x (by rw[e]; simp)]
  ·rfl
 ·rfl
theorem lowD_congr {drawn:Option Nat} {o:Op} {ρ ρ':Operand→V} {id:Nat} (h':∀x∈o.operands,ρ x=ρ' x):lowD drawn o ρ id=lowD drawn o ρ' id:=by
 cases drawn with
 | none=>rfl
 | some b=>exact lowApp_congr h'
theorem opW_set {base:Nat} {o:Op} {ρ:Operand→V} {id ix:Nat} {ob:cm} {k:V→aM→Option R} (ha:uh o=true) (hl:J2 base o ρ id=true) (je:id<ix) :
  YI tt o ρ (h.set ix ob) id k=YI tt o ρ h id fun v h'=>k v (h'.set ix ob):=by
 obtain ⟨⟨callee,args,argTypes⟩,rfl,hc⟩:=app_inv ha
 simp only at hc
 subst hc
 simp only[YI]
 split
 ·rename_i s x t xt _ e et
  simp only[J2,e,Bool.and_eq_true]at hl
  simp only[appendK_set hl.1 hl.2 je]
 ·rfl
theorem opW_mono {base:Nat} {o:Op} {ρ:Operand→V} {id:Nat} {k k':V→aM→Option R} (ha:uh o=true) (hb:base≤id) (hl:J2 base o ρ id=true) (hk:∀v h',(∀i,i<base→(h'.at i).rd=(h.at i).rd)→k v h'=k' v h') :
  YI tt o ρ h id k=YI tt o ρ h id k':=by
 obtain ⟨⟨callee,args,argTypes⟩,rfl,hc⟩:=app_inv ha
 simp only at hc
 subst hc
 simp only[YI]
 split
 ·rename_i s x t xt _ e et
  simp only[J2,e,Bool.and_eq_true]at hl
  simp only[appendK_mono hb hl.1 hk]
 ·rfl
end
section
variable {P:Program} {tt:dd} {w w':World} {h h':aM} {c c':jI} {R:Type}
structure S9 (w:World) (c:jI) (st:St) (a:Act):Prop where
 wf:WF w st.hp c
 fr:cC w st.hp c st.fr a.tmps.toList
theorem xI.refl (al:Bool) (id:Nat) (h:aM):xI al id h h:=⟨Nat.le_refl _,fun _ _ _ hf=>hf⟩
theorem xI.set {id:Nat} (ob:cm):xI true id h (h.set id ob):=⟨by simp,fun j hj _ hf=>by rw[cG _ (Ne.symm (hj rfl))]; exact hf⟩
theorem xI.weak {al:Bool} {id:Nat} (k:xI false 0 h h'):xI al id h h':=⟨k.1,fun j _ hj hf=>k.2 j (by simp) hj hf⟩
theorem opW_nat {o:Op} {ρ:Operand→V} {id:Nat} {k0:V→aM→Option R} {r:R} (hk:YI tt o ρ h id k0=some r) :
  ∃v h',k0 v h'=some r∧xI true id h h'∧∀k:V→aM→Option R,YI tt o ρ h id k=k v h':=by
 have kset:∀i ob,h.at i ≠ .free→xI true id h (h.set i ob):=fun i ob hi=>⟨by simp,fun j _ _ hf=>by
  rw[cG _ (fun e:i=j=>hi (by rw[e]; exact hf))]; exact hf⟩
 have kset2:∀i ob ob',h.at i ≠ .free→xI true id h ((h.set i ob).set id ob'):=fun i ob ob' hi=>⟨by simp,fun j hj _ hf=>by
  rw[cG _ (Ne.symm (hj rfl)),cG _ (fun e:i=j=>hi (by rw[e]; exact hf))]; exact hf⟩
 cases o <;> simp only[YI]at hk ⊢ <;> try (first|cases hk)
 case store t x y =>
  split at hk <;> try (first|cases hk)
  rename_i vs hvs
  split at hk <;> try (first|cases hk)
  rename_i hc
  split at hk <;> try (first|cases hk)
  ·rename_i i o hx
   split at hk <;> try (first|cases hk)
   ·rename_i cs EG
    split at hk <;> try (first|cases hk)
    rename_i hl
    exact ⟨_,_,hk,kset i _ (by rw[EG]; simp),fun k=>by simp only[*,if_true]⟩
   rename_i u EG
   split at hk <;> try (first|cases hk)
   exact ⟨_,_,hk,kset i _ (by rw[EG]; simp),fun k=>by simp only[*,if_true]⟩
  ·rename_i i sz j o hx
   split at hk <;> try (first|cases hk)
   rename_i T l EG
   split at hk <;> try (first|cases hk)
   rename_i hs
   split at hk <;> try (first|cases hk)
   rename_i hl
   split at hk <;> try (first|cases hk)
   rename_i z hz
   obtain ⟨hb,hk⟩:=cd hk
   exact ⟨_,_,hk,kset i _ (by rw[EG]; simp),fun k=>by simp only[*,if_true,cw,cond_true]⟩
 case slice t x lo hi mx =>
  cases hb:(lo.isNone&&hi.isNone&&mx.isNone)with
  | false=>rw[hb]at hk; cases hk
  | true =>
   rw[hb,cond_true]at hk
   unfold K5 at hk
   split at hk <;> try (first|cases hk)
   rename_i m e i ht hx
   split at hk <;> try (first|cases hk)
   rename_i cs EG
   split at hk <;> try (first|cases hk)
   rename_i T' hT
   split at hk <;> try (first|cases hk)
   rename_i hc
   split at hk <;> try (first|cases hk)
   rename_i l hl
   exact ⟨_,_,hk,kset i _ (by rw[EG]; simp),fun k=>by
    rw[cond_true]
    unfold K5
    simp only[ht,hx,EG,hT]
    rw[if_pos hc,hl]⟩
 case mapUpdate t m x y =>
  split at hk <;> try (first|cases hk)
  rename_i kt vt i ht hx
  split at hk <;> try (first|cases hk)
  rename_i K V' l hm
  split at hk <;> try (first|cases hk)
  rename_i hf
  split at hk <;> try (first|cases hk)
  rename_i kx vx hkx hvx
  exact ⟨_,_,hk,kset i _ (by rw[hm]; simp),fun k=>by simp only[ht,hx,hm,hf,hkx,hvx,if_true]⟩
 case insert t m x y =>
  split at hk <;> try (first|cases hk)
  rename_i kt vt i ht hx
  split at hk <;> try (first|cases hk)
  rename_i K V' l hm
  split at hk <;> try (first|cases hk)
  rename_i hf
  split at hk <;> try (first|cases hk)
  rename_i kx vx hkx hvx
  exact ⟨_,_,hk,kset i _ (by rw[hm]; simp),fun k=>by simp only[ht,hx,hm,hf,hkx,hvx,if_true]⟩
 case next x str =>
  split at hk <;> try (first|cases hk)
  rename_i i hx
  split at hk <;> try (first|cases hk)
  rename_i s pos hit
  cases hb:decide (pos<s.length)with
  | true =>
   rw[hb]at hk
   exact ⟨_,_,hk,kset i _ (by rw[hit]; simp),fun k=>by simp only[hx,hit,hb,cond_true]⟩
  | false =>
   rw[hb]at hk
   exact ⟨_,_,hk, .refl _ _ _,fun k=>by simp only[hx,hit,hb,cond_false]⟩
 case call cl =>
  have happ:∀e s x,o3 tt e s x h id k0=some r→∃v h',k0 v h'=some r∧xI true id h h'∧∀k:V→aM→Option R,o3 tt e s x h id k=k v h':=by
   intro e s x hk
   unfold o3 at hk
   have hk0:=cd hk
   clear hk
   obtain ⟨hvok,hk⟩:=hk0
   unfold zk at hk
   split at hk <;> try (first|cases hk)
   rename_i T hT
   split at hk <;> try (first|cases hk)
   rename_i hc
   split at hk <;> try (first|cases hk)
   rename_i m hm
   split at hk <;> try (first|cases hk)
   ·obtain ⟨hb,hk⟩:=cd hk
    split at hk
    ·rename_i hr
     exact ⟨_,_,hk,xI.set _,fun k=>by simp only[o3,zk,hvok,hT,hc,hm,if_true,hb,cw,cond_true,hr]⟩
    ·rename_i hr
     exact ⟨_,_,hk,xI.set _,fun k=>by simp only[o3,zk,hvok,hT,hc,hm,if_true,hb,cw,cond_true,if_neg hr]⟩
   ·split at hk <;> try (first|cases hk)
    rename_i hq
    subst hq
    split at hk <;> try (first|cases hk)
    ·obtain ⟨hb,hk⟩:=cd hk
     exact ⟨_,_,hk,xI.set _,fun k=>by simp only[o3,zk,hvok,hT,hc,hm,if_true,hb,cw,cond_true,dite_true]⟩
    ·split at hk <;> try (first|cases hk)
     rename_i hi
     obtain ⟨hb,hk⟩:=cd hk
     exact ⟨_,_,hk,kset2 _ _ _ (by rw[hi]; simp),fun k=>by simp only[o3,zk,hvok,hT,hc,hm,hi,if_true,hb,cw,cond_true,dite_true]⟩
   ·split at hk <;> try (first|cases hk)
    rename_i T' l hi
    split at hk <;> try (first|cases hk)
    rename_i hq
    subst hq
    obtain ⟨hb,hk⟩:=cd hk
    exact ⟨_,_,hk,kset2 _ _ _ (by rw[hi]; simp),fun k=>by simp only[o3,zk,hvok,hT,hc,hm,hi,if_true,hb,cw,cond_true,dite_true]⟩
  split at hk <;> try (first|cases hk)
  split at hk <;> try (first|cases hk)
  ·obtain ⟨v,h',h1,h2,h3⟩:=happ _ _ _ hk
   exact ⟨v,h',h1,h2,fun k=>by simp[*]⟩
  ·obtain ⟨v,h',h1,h2,h3⟩:=happ _ _ _ hk
   exact ⟨v,h',h1,h2,fun k=>by simp[*]⟩
theorem GX {st:List V} {a:Act} (r:cC w h c st a.tmps.toList) (dst:Option Nat) {v:V} {d:Value} (rv:dx w h c v d):cC w h c (mW st dst v) (a.put dst d).tmps.toList:=by
 cases dst with
 | none=>exact r
 | some j=>simpa [mW,Act.put]using r.set j rv
theorem put_defers (a:Act) (dst:Option Nat) (d:Value):(a.put dst d).defers=a.defers:=by cases dst <;> rfl
theorem Pn (T:AU P tt) {E:Env R} (hE:EOk P E) {o:Oper} {st:St} {a:Act} {drawn:Option Nat} {id:Nat} {k:St→Option R} {r:R} (hk:EX tt E drawn id o st k=some r) (iG:S9 w c st a)
  (hid:cn tt o=true→id<st.hp.length∧st.hp.at id = .free) {next:Act→World→Prop} {Q:Exit→Act→World→Prop}
  (hn:∀d w' xH c' v,S9 w' c' xH (a.put o.dst d)→Ext w st.hp c w' xH.hp c'→xI (cn tt o) id st.hp xH.hp→xH.fr=mW st.fr o.dst v→(fy tt o.op ≠ .W→(fy tt o.op = .C→(drawn.isNone || !o4 E o.op)=false)→∀i,(cn tt o=true→i≠id)→xH.hp.at i=st.hp.at i)→k xH=some r→next (a.put o.dst d) w'):o.wp P a w next Q:=by
 have hρ:=fun x=>ev_rep iG.fr x
 unfold EX at hk
 unfold Oper.wp
 simp only at hk
 split at hk
 ·rename_i J6
  obtain ⟨v,d,h1,h2,h3⟩:=opP_sound (w:=w) T hρ hk
  rw[h1,Oper.upon_value]
  exact hn d w ⟨mW st.fr o.dst v,st.hp⟩ c v ⟨iG.wf,GX iG.fr _ h2⟩ (.refl _ _ _) (.refl _ _ _) rfl (fun _ _ _ _=>rfl) h3
 ·rename_i J6
  obtain ⟨v,d,h1,h2,h3⟩:=opR_sound T iG.wf hρ hk
  rw[h1,Oper.upon_value]
  exact hn d w ⟨mW st.fr o.dst v,st.hp⟩ c v ⟨iG.wf,GX iG.fr _ h2⟩ (.refl _ _ _) (.refl _ _ _) rfl (fun _ _ _ _=>rfl) h3
 ·rename_i J6
  have hal:cn tt o=true:=by simp[cn,J6]
  obtain ⟨ob,mk,h1,_,h2⟩:=opA_sound T iG.wf hρ hk
  obtain ⟨d,w',c',g1,g2,g3,g4⟩:=h2 id (hid hal).1 (hid hal).2
  rw[g1,Oper.upon_value]
  exact hn d w' ⟨mW st.fr o.dst (mk id),st.hp.set id ob⟩ c' (mk id) ⟨g2,GX (iG.fr.mono g3) _ g4⟩ g3 (by rw[hal]; exact xI.set _) rfl (fun _ _ i hi=>cG _ (Ne.symm (hi hal))) h1
 ·rename_i J6
  have hal:cn tt o=true:=by simp[cn,J6]
  have hk:lowD drawn o.op (ev st.fr) id=true∧YI tt o.op (ev st.fr) st.hp id (fun v h=>k ⟨mW st.fr o.dst v,h⟩)=some r:=by
   revert hk
   cases lowD drawn o.op (ev st.fr) id <;> simp
  obtain ⟨_,hk⟩:=hk
  obtain ⟨v0,h0,hk0,hkeep,hnat⟩:=opW_nat hk
  have Rj:=hnat fun v h'=>open Classical in if h'=h0 then k ⟨mW st.fr o.dst v,h'⟩else none
  simp only[if_true]at Rj
  obtain ⟨v,h',d,w',c',nx,g1,g2,g3,g4,g5,g6⟩:=opW_sound T iG.wf hρ (hid hal).1 (hid hal).2 (Rj.trans hk0)
  split at g6 <;> try (first|cases g6)
  rename_i he
  subst he
  rw[g1]
  rcases g2 with rfl|⟨rfl,rfl⟩
  ·rw[Oper.upon_value]
   exact hn d w' ⟨mW st.fr o.dst v,h'⟩ c' v ⟨g3,GX (iG.fr.mono g4) _ g5⟩ g4 (by rw[hal]; exact hkeep) rfl (fun hC=>(hC J6).elim) g6
  ·rw[Oper.upon_skip]
   exact hn undef w' ⟨mW st.fr o.dst v,h'⟩ c' v ⟨g3,GX (iG.fr.mono g4) _ g5⟩ g4 (by rw[hal]; exact hkeep) rfl (fun hC=>(hC J6).elim) g6
 ·rename_i J6
  split at hk <;> try (first|cases hk)
  rename_i cl Pc
  obtain ⟨g,args,h1,nx,w1,h2,h3⟩:=callK_sound hE iG.wf Pc hρ hk
  rw[h1,h2]
  have fin:∀d w',(∃v h' c',WF w' h' c'∧Ext w st.hp c w' h' c'∧dx w' h' c' v d∧k ⟨mW st.fr o.dst v,h'⟩=some r∧xI false 0 st.hp h'∧((drawn.isNone || !o4 E o.op)=false→h'=st.hp))→next (a.put o.dst d) w':=by
   rintro d w' ⟨v,h',c',q1,q2,q3,q4,q5,q6⟩
   exact hn d w' ⟨mW st.fr o.dst v,h'⟩ c' v ⟨q1,GX (iG.fr.mono q2) _ q3⟩ q2 q5.weak rfl (fun _ hd i _=>by rw[q6 (hd J6)]) q4
  cases nx <;> simp only at h3
  ·rw[Oper.upon_value]; exact fin _ _ h3
  ·rw[Oper.upon_enter]
   exact Calls.mono h3 fun e w' ⟨d,e1,q⟩=>by subst e1; exact fin d w' q
  ·rw[Oper.upon_row]
   exact Rows.mono h3 fun d w' q=>fin d w' q
 ·cases hk
 ·cases hk
end
section
variable {P:Program} {tt:dd} {w w':World} {h h':aM} {c c':jI} {R:Type}
theorem Zh {fr:List V} {d:Nat} {v:V} (h:fr.getD d .undef=v) (hv:v ≠ .undef):fr.set d v=fr:=by
 have hd:d<fr.length:=by
  rcases Nat.lt_or_ge d fr.length with hl|hl
  ·exact hl
  ·simp[List.getD,List.getElem?_eq_none hl]at h; exact (hv h.symm).elim
 have e:fr[d]=v:=by simpa [List.getD,List.getElem?_eq_getElem hd]using h
 rw[←e]
 exact List.set_getElem_self hd
theorem Ht {all:List Oper} {o:Oper} {st:St} {run skip:St→Option R}:Ak all o st run skip =
  match o.guard with
  | none=>run st
  | some (j,want) =>
   match (all[j]?).bind (·.dst)with
   | none=>none
   | some d=>match st.fr.getD d .undef with | .bool b=>if b=want then run st else skip st | .tuple []=>skip st|_=>none:=by
 unfold Ak
 cases o.guard with
 | none=>rfl
 | some jw =>
  obtain ⟨j,want⟩:=jw
  simp only
  cases (all[j]?).bind (·.dst)with
  | none=>rfl
  | some d =>
   simp only
   cases hb:st.fr.getD d .undef with
   | bool b =>
    have e:(⟨st.fr.set d (.bool b),st.hp⟩:St)=st:=by rw[Zh hb (by simp)]
    cases b <;> cases want <;> simp[e]
   | tuple vs=>cases vs <;> rfl
   | _=>rfl
theorem Mw {ops:Array Oper} {o:Oper} {st:St} {a:Act} (iG:S9 w c st a) {run skip:St→Option R} {r:R} (hk:Ak ops.toList o st run skip=some r) :
  (Region.wanted o (yielded ops a.tmps)=true∧run st=some r)∨(Region.wanted o (yielded ops a.tmps)=false∧skip st=some r):=by
 rw[Ht]at hk
 unfold Region.wanted
 split at hk
 ·rename_i hg; simp only[hg]; exact .inl ⟨trivial,hk⟩
 ·rename_i j want hg
  simp only[hg]
  split at hk <;> try (first|cases hk)
  rename_i d hd
  have hl:∀v,st.fr.getD d .undef=v→v ≠ .undef→d<st.fr.length:=fun v hv jA=>by
   rcases Nat.lt_or_ge d st.fr.length with hl|hl
   ·exact hl
   ·simp[List.getD,List.getElem?_eq_none hl]at hv; exact (jA hv.symm).elim
  have key:∀v,st.fr.getD d .undef=v→v ≠ .undef→∃x,a.tmps[d]? = some x∧dx w st.hp c v x:=fun v hb jA=>by
   have hl:=hl v hb jA
   have hl2:d<a.tmps.size:=by rw[←(by simpa using iG.fr.1:st.fr.length=a.tmps.size)]; exact hl
   exact ⟨a.tmps[d],Array.getElem?_eq_getElem hl2,iG.fr.2 d v a.tmps[d] (by rw[List.getElem?_eq_getElem hl]; simpa [List.getD,List.getElem?_eq_getElem hl]using hb) (by simp)⟩
  have hd':(ops[j]?).bind (·.dst)=some d:=by simpa using hd
  split at hk <;> try (first|cases hk)
  ·rename_i b hb
   obtain ⟨x,hx,rv⟩:=key _ hb (by simp)
   have hy:yielded ops a.tmps j=some b:=by
    unfold yielded
    rw[hd']
    simp only[Option.bind_some,hx]
    cases rv
    rfl
   rw[hy]
   split at hk
   ·rename_i hw; subst hw; exact .inl ⟨by simp,hk⟩
   ·rename_i hw; exact .inr ⟨by simpa using hw,hk⟩
  ·rename_i hb
   obtain ⟨x,hx,rv⟩:=key _ hb (by simp)
   have hy:yielded ops a.tmps j=none:=by
    unfold yielded
    rw[hd']
    simp only[Option.bind_some,hx]
    cases rv
    rfl
   rw[hy]
   exact .inr ⟨by simp,hk⟩
theorem VS:dx w h c (.tuple []) undef := .tuple rfl (by simp)
def Goes (w:World) (c:jI) (st:St) (a:Act) (k:St→Option R) (r:R) (K:Act→World→Prop):Prop :=
 ∀a' w' xH c',S9 w' c' xH a'→Ext w st.hp c w' xH.hp c'→a'.defers=a.defers→k xH=some r→K a' w'
def Slots (tt:dd) (rest:List Oper) (id:Nat) (h:aM):Prop:=∀j,id≤j→j<id+(rest.filter (cn tt)).length→j<h.length∧h.at j = .free
theorem Ta (T:AU P tt) {E:Env R} (hE:EOk P E) {ops:Array Oper} {k:St→Option R} {r:R} {Q:Exit→Act→World→Prop}:∀(rest:List Oper) (n id:Nat) (w:World) (c:jI) (st:St) (a:Act),
  ops.toList.drop n=rest→YL tt E none ops.toList rest id st k=some r→S9 w c st a→Slots tt rest id st.hp→Goes w c st a k r (Q .normal)→wpOps P ops Q (List.range' n rest.length) a w
 | [],n,id,w,c,st,a,_,hk,iG,_,go=>go a w st c iG (.refl _ _ _) rfl hk
 | o::rest,n,id,w,c,st,a,hd,hk,iG,hs,go=>by
  have hn:ops[n]? = some o:=by
   have:(ops.toList.drop n)[0]? = some o:=by rw[hd]; rfl
   rw[List.getElem?_drop]at this
   simpa using this
  have hd':ops.toList.drop (n+1)=rest:=by
   have:(ops.toList.drop n).drop 1=rest:=by rw[hd]; rfl
   rwa [List.drop_drop]at this
  rw[List.length_cons,List.range'_succ,wpOps_cons]
  unfold wpOp
  simp only[hn]
  simp only[YL,Mj]at hk
  have hsl:∀h',xI (cn tt o) id st.hp h'→Slots tt rest (if cn tt o then id+1 else id) h':=by
   intro h' kp j h1 h2
   cases ha:cn tt o with
   | true =>
    rw[ha]at h1 h2 kp
    simp only[if_true]at h1 h2
    obtain ⟨g1,g2⟩:=hs j (by omega) (by rw[List.filter_cons_of_pos ha,List.length_cons]; omega)
    exact ⟨Nat.lt_of_lt_of_le g1 kp.1,kp.2 j (fun _=>by omega) g1 g2⟩
   | false =>
    rw[ha]at h1 h2 kp
    simp only[Bool.false_eq_true,if_false]at h1 h2
    obtain ⟨g1,g2⟩:=hs j (by omega) (by rw[List.filter_cons_of_neg (by simp[ha])]; omega)
    exact ⟨Nat.lt_of_lt_of_le g1 kp.1,kp.2 j (fun h=>by cases h) g1 g2⟩
  rcases Mw iG hk with ⟨hw,hk⟩|⟨hw,hk⟩
  ·rw[if_pos hw]
   refine .inl (Pn T hE hk iG (fun ha=>hs id (Nat.le_refl _) (by rw[List.filter_cons_of_pos ha,List.length_cons]; omega)) fun d w' xH c' v sim' x kp _ _ ui => ?_)
   refine Ta T hE rest (n+1) _ w' c' xH _ hd' ui sim' (hsl _ kp) fun a2 w2 I0 c2 s2 x2 d2 k2 => ?_
   exact go a2 w2 I0 c2 s2 (x.trans x2) (d2.trans (put_defers _ _ _)) k2
  ·rw[if_neg (by simp[hw])]
   refine Ta T hE rest (n+1) _ w c ⟨mW st.fr o.dst (.tuple []),st.hp⟩ _ hd' hk ⟨iG.wf,GX iG.fr _ VS⟩ (hsl _ (.refl _ _ _)) fun a2 w2 I0 c2 s2 x2 d2 k2 => ?_
   exact go a2 w2 I0 c2 s2 x2 (d2.trans (put_defers _ _ _)) k2
theorem Yl {n i:Nat}:aM.at (h++List.replicate n .free) i=h.at i∨(h.length≤i∧aM.at (h++List.replicate n .free) i = .free):=by
 rcases Nat.lt_or_ge i h.length with hi|hi
 ·exact .inl (kl hi)
 ·rcases Nat.lt_or_ge (i - h.length) n with hj|hj
  ·refine .inr ⟨hi,?_⟩
   rw[jB hi]
   simp[aM.at,List.getD,List.getElem?_replicate,hj]
  ·refine .inl ?_
   rw[jB hi]
   have h1:¬(i - h.length<n):=by omega
   have h2:¬(i<h.length):=by omega
   simp[aM.at,List.getD,List.getElem?_replicate,h1,List.getElem?_eq_none hi]
theorem at_out {i:Nat} (hi:h.length≤i):h.at i = .dead:=by simp[aM.at,List.getD,List.getElem?_eq_none hi]
theorem Zi {n b x:Nat}:xk (h++List.replicate n .free) c b x↔xk h c b x:=by
 constructor
 ·rintro ⟨i,f,h1,h2,h3⟩
  rcases Yl (h:=h) (n:=n) (i:=i)with e|⟨_,e⟩
  ·exact ⟨i,f,h1,e▸h2,h3⟩
  ·rw[e]at h2; cases h2
 ·rintro ⟨i,f,h1,h2,h3⟩
  rcases Yl (h:=h) (n:=n) (i:=i)with e|⟨hi,e⟩
  ·exact ⟨i,f,h1,e.symm▸h2,h3⟩
  ·rw[at_out hi]at h2; cases h2
theorem xm (n:Nat):Ext w h c w (h++List.replicate n .free) c where
 os:=rfl
 tape:=rfl
 output:=rfl
 size:=Nat.le_refl _
 used:=fun i hi=>⟨by simp; have:=hi.1; omega,by
  rw[kl hi.1]; exact hi.2⟩
 same:=fun i hi hd=>by
  rw[kl hi.1]at hd ⊢
  exact ⟨Ld (Rl hi.2 hd) (fun _ _ _ => .inr trivial),rfl,rfl⟩
 cell:=fun _ _ _ _=>rfl
 block:=fun _ _ _=>rfl
 Bp:=fun b x _ ho=>Zi.1 ho
 ext:=rfl
 arr:=fun b arr e fz hb=>⟨arr,fz,hb,rfl⟩
theorem Po (wf:WF w h c) (n:Nat):WF w (h++List.replicate n .free) c where
 lay:=wf.vP (xm n)
 C8:=fun b x ho=>wf.C8 b x (Zi.1 ho)
 rG:=wf.rG
 obj:=fun i hi=>by
  rcases Yl (h:=h) (n:=n) (i:=i)with e|⟨_,e⟩
  ·rw[e]
   rcases Nat.lt_or_ge i h.length with hl|hl
   ·have ho:=wf.obj i hl
    by_cases hv:(h.at i).live
    ·exact ho.uY (xm n) (fun _ _=>rfl) rfl rfl
    ·have h0:h.at i = .free∨h.at i = .dead:=by revert hv; cases h.at i <;> simp[cm.live]
     rcases h0 with h0|h0 <;> rw[h0] <;> trivial
   ·rw[at_out hl]; trivial
  ·rw[e]; trivial
 inj:=fun i j b hi hj h1 h2=>by
  have hl:∀i,(aM.at (h++List.replicate n .free) i).live→(h.at i).live:=fun i hi=>by
   rcases Yl (h:=h) (n:=n) (i:=i)with e|⟨_,e⟩
   ·rw[e]at hi; exact hi
   ·rw[e]at hi; exact hi.elim
  exact wf.inj i j b (hl i hi) (hl j hj) h1 h2
theorem region_sound (T:AU P tt) {E:Env R} (hE:EOk P E) {id:Nat} {ops:Array Oper} {k:St→Option R} {r:R} {Q:Exit→Act→World→Prop} {st:St} {a:Act}
  (hk:Ri tt E ops.toList false st k=some r) (iG:S9 w c st a) (go:Goes w c st a k r (Q .normal)):(Code.region id ops false).wp P Q a w:=by
 refine wp_region ?_
 simp only[Ri,Bool.false_eq_true,if_false]at hk
 have:=Ta T hE (ops:=ops) (Q:=Q) ops.toList 0 st.hp.length w c _ a rfl hk ⟨Po iG.wf _,iG.fr.mono (xm _)⟩ ?_ ?_
 ·rw[List.range_eq_range']
  simpa using this
 ·intro j h1 h2
  refine ⟨by simp; omega,?_⟩
  rw[jB h1]
  have:j - st.hp.length<(ops.toList.filter (cn tt)).length:=by omega
  simp[aM.at,List.getD,List.getElem?_replicate,this]
 ·exact fun a2 w2 I0 c2 s2 x2 d2 k2=>go a2 w2 I0 c2 s2 ((xm _).trans x2) d2 k2
end
section
variable {P:Program} {tt:dd} {w w':World} {h h':aM} {c c':jI} {R:Type}
def one (tt:dd) (E:Env R) (S:Option (Bool×List Nat)) (base:Nat) (all:List Oper) (o:Oper) (id:Nat) (st:St) (k:St→Option R):Option R :=
 Ak all o st (fun st=>bif SZ tt E base S all o (ev st.fr) st.hp then EX tt E (drS tt S base o) id o st k else none) (fun st=>k ⟨mW st.fr o.dst (.tuple []),st.hp⟩)
abbrev AW:=Nat×Oper×Nat
def OJ (tt:dd) (E:Env R) (S:Option (Bool×List Nat)) (base:Nat) (all:List Oper):List AW→St→(St→Option R)→Option R
 | [],st,k=>k st
 | x::rest,st,k=>one tt E S base all x.2.1 x.2.2 st fun st=>OJ tt E S base all rest st k
def number (tt:dd):List Oper→Nat→Nat→List AW
 | [],_,_ => []
 | o::rest,i,id=>(i,o,id)::number tt rest (i+1) (if cn tt o then id+1 else id)
theorem opsK_eq {E:Env R} {base:Nat} {all:List Oper}:∀(l:List Oper) (i id:Nat) (st:St) (k:St→Option R),
  YL tt E (some base) all l id st k=OJ tt E none base all (number tt l i id) st k
 | [],_,_,_,_=>rfl
 | o::l,i,id,st,k=>by
  simp only[YL,Mj,number,OJ,one,SZ,drS,cond_true]
  congr 1
  ·funext st
   congr 1
   funext st
   exact opsK_eq l _ _ _ _
  ·funext st
   exact opsK_eq l _ _ _ _
theorem Ym {E:Env R} {A:Bool×List Nat} {base:Nat} {all:List Oper}:∀(l:List Oper) (i id:Nat) (st:St) (k:St→Option R),
  opsS tt E base A all l id st k=OJ tt E (some A) base all (number tt l i id) st k
 | [],_,_,_,_=>rfl
 | o::l,i,id,st,k=>by
  simp only[opsS,Mj,number,OJ,one]
  congr 1
  ·funext st
   congr 1
   congr 1
   funext st
   exact Ym l _ _ _ _
  ·funext st
   exact Ym l _ _ _ _
theorem drS_ne {S:Option (Bool×List Nat)} {base:Nat} {o:Oper} (h:fy tt o.op ≠ .W):drS tt S base o=some base:=by
 unfold drS
 split
 ·split
  ·rename_i hc; exact (h hc).elim
  ·rfl
 ·rfl
theorem drS_some {S:Option (Bool×List Nat)} {base:Nat} {o:Oper} (h:S.map (·.1)≠some true):drS tt S base o=some base:=by
 unfold drS
 split
 ·exact (h rfl).elim
 ·rfl
structure Eff where
 dst:Option Nat
 v:V
 put:Option (Nat×cm)
def Eff.hp (e:Eff) (h:aM):aM:=match e.put with|none=>h|some (i,ob)=>h.set i ob
def eff (st:St) (e:Eff):St:=⟨mW st.fr e.dst e.v,e.hp st.hp⟩
theorem putF_getD {fr:List V} {dst:Option Nat} {v:V} {t:Nat} (h:dst≠some t):(mW fr dst v).getD t .undef=fr.getD t .undef:=by
 cases dst with
 | none=>rfl
 | some d =>
  have:d≠t:=fun e=>h (by rw[e])
  simp[mW,List.getD,List.getElem?_set_ne this]
theorem putF_comm {fr:List V} {x y:Option Nat} {u v:V} (h:∀d,x=some d→y≠some d):mW (mW fr x u) y v=mW (mW fr y v) x u:=by
 cases x with
 | none=>rfl
 | some d =>
  cases y with
  | none=>rfl
  | some e =>
   have:d≠e:=fun he=>h d rfl (by rw[he])
   simp only[mW]
   exact List.set_comm _ _ this
theorem Le {fr fr':List V} {o:Oper} {all:List Oper} (h:∀t∈looks all o,fr'.getD t .undef=fr.getD t .undef):∀x∈o.op.operands,ev fr' x=ev fr x:=by
 intro x hx
 cases x with
 | tmp t=>exact h t (List.mem_append_left _ (List.mem_filterMap.2 ⟨.tmp t,by simpa using hx,rfl⟩))
 | _=>rfl
theorem Zj {fr fr':List V} {hp hp':aM} {o:Oper} {all:List Oper} (h:∀t∈looks all o,fr'.getD t .undef=fr.getD t .undef) {run skip run' Zk:St→Option R}
  (hr:run' ⟨fr',hp'⟩=run ⟨fr,hp⟩) (hs:Zk ⟨fr',hp'⟩=skip ⟨fr,hp⟩):Ak all o ⟨fr',hp'⟩ run' Zk=Ak all o ⟨fr,hp⟩ run skip:=by
 rw[Ht,Ht]
 cases hg:o.guard with
 | none=>exact hr
 | some jw =>
  obtain ⟨j,want⟩:=jw
  simp only
  cases hd:(all[j]?).bind (·.dst)with
  | none=>rfl
  | some d =>
   have:=h d (by
    refine List.mem_append_right _ ?_
    simp only[hg,hd]
    simp)
   simp only[this,hr,hs]
theorem opR_heap {o:Op} {ρ:Operand→V} {lim:Option Nat} {h2:aM} (e:∀i∈BE o ρ,Oe lim i=true→(h2.at i).rd=(h.at i).rd) {k:V→Option R}:opR tt o ρ h2 lim k=opR tt o ρ h lim k:=by
 have e':∀i∈BE o ρ,Oe lim i=true→h2.at i=h.at i∨((h2.at i = .tok∨h2.at i = .dead∨h2.at i = .free)∧(h.at i = .tok∨h.at i = .dead∨h.at i = .free)):=fun i hm hi=>rd_eq (e i hm hi)
 clear e
 cases o <;> simp only[opR]
 case load t x =>
  split
  ·rename_i i o hx
   split
   ·rename_i hl
    rcases e' i (by simp[BE,hx,V.ids]) hl with h1|⟨h1|h1|h1,g2|g2|g2⟩ <;> (first|(simp only[h1,g2]; done)|(simp only[h1]; done)|rfl|(simp only[h1,g2]; (repeat' split) <;> first|rfl|contradiction|simp_all))
   ·rfl
  ·rfl
  ·rename_i i _ _ _ hx
   split
   ·rename_i hl
    rcases e' i (by simp[BE,hx,V.ids]) hl with h1|⟨h1|h1|h1,g2|g2|g2⟩ <;> (first|(simp only[h1,g2]; done)|(simp only[h1]; done)|(simp only[h1,g2]; (repeat' split) <;> first|rfl|contradiction|simp_all))
   ·rfl
  ·rfl
 case lookup t x ix ok =>
  split
  ·rename_i kt vt i _ hx
   split
   ·rename_i hl
    rcases e' i (by simp[BE,hx,V.ids]) hl with h1|⟨h1|h1|h1,g2|g2|g2⟩ <;> (first|simp only[h1,g2]|simp only[h1])
   ·rfl
  ·rfl
 case convert s d x =>
  split
  ·rename_i i _ _ _ hx
   split
   ·rename_i hl
    rcases e' i (by simp[BE,hx,V.ids]) hl with h1|⟨h1|h1|h1,g2|g2|g2⟩ <;> (first|(simp only[h1,g2]; done)|(simp only[h1]; done)|(simp only[h1,g2]; (repeat' split) <;> first|rfl|contradiction|simp_all))
   ·rfl
  ·rfl
  ·rfl
  ·rfl
def Jq (S:Option (Bool×List Nat)) (E:Env R) (all:List Oper) (tt:dd) (base:Nat) (x:Oper) (st I0:St):Prop :=
 (∀t∈looks all x,I0.fr.getD t .undef=st.fr.getD t .undef)∧(fy tt x.op = .R→∀i,i<base→(∀A,S=some (true,A)→farR tt E all x=true→i∈A)→(∀A,S=some (false,A)→farR2 tt E all x=true→i∉A)→(I0.hp.at i).rd=(st.hp.at i).rd)
def turns (tt:dd) (E:Env R) (o:Op):Prop:=(dS tt E o = .W∧uh o=false)∨(dS tt E o = .F∧mq E o=false)
def Kept (S:Option (Bool×List Nat)) (tt:dd) (E:Env R) (all:List Oper) (base:Nat) (o:Oper) (h h':aM):Prop :=
 (∀i,i<base→(h'.at i).rd=(h.at i).rd)∨((turns tt E o.op∨(S.map (·.1)=some true∧uh o.op=true))∧(dS tt E o.op = .F→∀A,S=some (true,A)→∀i∈A,(h'.at i).rd=(h.at i).rd)∧(viaS all o=true→∀A,S=some (false,A)→∀i,i∉A→(h'.at i).rd=(h.at i).rd))
theorem um {E:Env R} {o:Op} (h:fy tt o ≠ .C):dS tt E o=fy tt o:=by
 unfold dS
 split
 ·rename_i hc; exact (h hc).elim
 ·rfl
def calm (a:Cls):Bool:=match a with | .P | .R | .A=>true|_=>false
theorem readIds_congr {o:Op} {ρ ρ':Operand→V} (h:∀x∈o.operands,ρ' x=ρ x):BE o ρ'=BE o ρ:=by
 cases o <;> simp only[BE] <;> rw[h _ (by simp[Op.operands])]
theorem Zl {o:Op} {ρ ρ':Operand→V} (h:∀x∈o.operands,ρ' x=ρ x):HE o ρ'=HE o ρ:=by
 cases o <;> simp only[HE] <;> rw[h _ (by simp[Op.operands])]
theorem callIds_congr {o:Op} {ρ ρ':Operand→V} {hp:aM} (h:∀x∈o.operands,ρ' x=ρ x):mF o ρ' hp=mF o ρ hp:=by
 unfold mF
 split
 ·rename_i cl
  split
  ·rename_i f hf
   have e1:ρ' f=ρ f:=h f (by simp[Op.operands,Call.operands,hf])
   have e2:cl.args.toList.map ρ'=cl.args.toList.map ρ:=List.map_congr_left fun z hz=>h z (by simp[Op.operands,Call.operands]; exact .inr (by simpa using hz))
   rw[e1,e2]
  ·rfl
 ·rfl
theorem okS_frame {E:Env R} {base:Nat} {S:Option (Bool×List Nat)} {all:List Oper} {x:Oper} {fr fr':List V} {hp:aM} (h:∀t∈looks all x,fr'.getD t .undef=fr.getD t .undef):SZ tt E base S all x (ev fr') hp=SZ tt E base S all x (ev fr) hp:=by
 cases S with
 | none=>rfl
 | some A=>obtain ⟨m,A⟩:=A; cases m <;> simp only[SZ] <;> rw[readIds_congr (Le h),Zl (Le h)] <;> rw[callIds_congr (Le h)]
theorem okS_calm {E:Env R} {base:Nat} {S:Option (Bool×List Nat)} {all:List Oper} {x:Oper} {fr fr':List V} {hp hp':aM} (hc:calm (fy tt x.op)=true) (h:∀t∈looks all x,fr'.getD t .undef=fr.getD t .undef):SZ tt E base S all x (ev fr') hp'=SZ tt E base S all x (ev fr) hp:=by
 rw[okS_frame (fr:=fr) h]
 cases S with
 | none=>rfl
 | some A =>
  obtain ⟨m,A⟩:=A
  cases m <;> simp only[SZ] <;> revert hc <;> cases fy tt x.op <;> simp[calm]
theorem one_nat {E:Env R} {S:Option (Bool×List Nat)} {base:Nat} {all:List Oper} {x:Oper} {id:Nat} {st:St} {k0:St→Option R} {r:R} (hc:calm (fy tt x.op)=true) (hk:one tt E S base all x id st k0=some r) :
  ∃e:Eff,e.dst=x.dst∧(∀i ob,e.put=some (i,ob)→i=id∧fy tt x.op = .A)∧k0 (eff st e)=some r∧∀I0,Jq S E all tt base x st I0→∀k,one tt E S base all x id I0 k=k (eff I0 e):=by
 unfold one at hk ⊢
 -- the guard says the same
 have hgu:∀I0,Jq S E all tt base x st I0→∀(run skip:St→Option R),Ak all x I0 run skip=Ak all x st (fun _=>run I0) (fun _=>skip I0):=by
  intro I0 ha run skip
  obtain ⟨fr,hp⟩:=st
  obtain ⟨fr2,hp2⟩:=I0
  exact Zj ha.1 rfl rfl
 have hsame:∀run skip:St→Option R,(∀run' Zk:St→Option R,Ak all x st run' Zk=run' st)∨(∀run' Zk:St→Option R,Ak all x st run' Zk=Zk st)∨Ak all x st run skip=none:=by
  intro run skip
  simp only[Ht]
  cases x.guard with
  | none=>exact .inl fun _ _=>rfl
  | some jw =>
   obtain ⟨j,want⟩:=jw
   simp only
   cases (all[j]?).bind (·.dst)with
   | none=>exact .inr (.inr rfl)
   | some d =>
    simp only
    cases st.fr.getD d .undef with
    | bool b=>by_cases hb:b=want <;> simp[hb]
    | tuple vs =>
     cases vs with
     | nil=>exact .inr (.inl fun _ _=>rfl)
     | cons _ _=>exact .inr (.inr rfl)
    | _=>exact .inr (.inr rfl)
 rcases hsame _ _ with hg|hg|hg
 ·rw[hg]at hk
  obtain ⟨hS,hk⟩:SZ tt E base S all x (ev st.fr) st.hp=true∧EX tt E (drS tt S base x) id x st k0=some r:=by
   cases hS:SZ tt E base S all x (ev st.fr) st.hp with
   | true=>rw[hS]at hk; exact ⟨rfl,hk⟩
   | false=>rw[hS]at hk; cases hk
  have hnW:fy tt x.op ≠ .W:=fun e=>by rw[e]at hc; cases hc
  rw[drS_ne hnW]at hk ⊢
  have hS2:∀I0,Jq S E all tt base x st I0→SZ tt E base S all x (ev I0.fr) I0.hp=true:=fun I0 ha=>by rw[←hS]; exact okS_calm hc ha.1
  unfold EX at hk
  simp only at hk
  split at hk
  ·rename_i J6
   obtain ⟨v,h1,h2⟩:=opP_nat hk
   refine ⟨⟨x.dst,v,none⟩,rfl,by simp,h1,fun I0 ha k => ?_⟩
   rw[hgu I0 ha,hg,hS2 I0 ha,cond_true]
   simp only[EX,J6]
   rw[opP_congr (Le ha.1),h2]
   rfl
  ·rename_i J6
   obtain ⟨v,h1,h2⟩:=opR_nat hk
   refine ⟨⟨x.dst,v,none⟩,rfl,by simp,h1,fun I0 ha k => ?_⟩
   rw[hgu I0 ha,hg,hS2 I0 ha,cond_true]
   simp only[EX,J6]
   rw[opR_congr (Le ha.1),opR_heap (h:=st.hp) fun i hm hi=>ha.2 J6 i (by simpa [Oe]using hi) (fun A hA hf => ?_) fun A hA hf => ?_,h2 _ fun i hi=>rfl]
   ·rfl
   ·subst hA
    simp only[SZ,J6,hf,Bool.not_true,Bool.false_or,List.all_eq_true]at hS
    simpa using hS i hm
   ·subst hA
    simp only[SZ,J6,hf,Bool.not_true,Bool.false_or,List.all_eq_true]at hS
    simpa using hS i hm
  ·rename_i J6
   obtain ⟨ob,mk,h1,h2⟩:=opA_nat hk
   refine ⟨⟨x.dst,mk id,some (id,ob)⟩,rfl,by simp[J6],h1,fun I0 ha k => ?_⟩
   rw[hgu I0 ha,hg,hS2 I0 ha,cond_true]
   simp only[EX,J6]
   rw[opA_congr (Le ha.1),h2]
   rfl
  all_goals (rename_i J6; rw[J6]at hc; cases hc)
 ·rw[hg]at hk
  refine ⟨⟨x.dst, .tuple [],none⟩,rfl,by simp,hk,fun I0 ha k => ?_⟩
  rw[hgu I0 ha,hg]
  rfl
 ·rw[hg]at hk; cases hk
theorem apart_spec {all:List Oper} {x y:Oper} (h:D0 all x y=true) :
  (∀d,x.dst=some d→d∉looks all y)∧(∀d,x.dst=some d→y.dst≠some d)∧(∀d,y.dst=some d→d∉looks all x):=by
 refine ⟨fun d hd => ?_,fun d hd => ?_,fun d hd => ?_⟩ <;> simp[D0,hd]at h
 ·exact h.1.1
 ·exact h.1.2
 ·exact h.2
theorem Mx {fr:List V} {c:Value} {g:Nat} {a b:List V} (h:ev fr (.const c) = .func g a b):False:=by
 simp only[ev]at h
 unfold ofConst at h
 split at h
 ·cases h
 ·unfold Pf at h
  split at h <;> (try split at h) <;> cases h
theorem Tb {i:Nat}:∀(n:Nat) (todo seen:List Nat),i∈seen→i∈reach h n todo seen
 | 0,_,_,hi=>hi
 | _+1, [],_,hi=>hi
 | n+1,j::todo,seen,hi=>by
  unfold reach
  split
  ·exact Tb n _ _ hi
  ·exact Tb n _ _ (by simp[hi])
theorem Rn {i:Nat} {ob:cm}:∀(n:Nat) (todo seen:List Nat),i∉reach h n todo seen→reach (h.set i ob) n todo seen=reach h n todo seen
 | 0,_,_,_=>rfl
 | _+1, [],_,_=>rfl
 | n+1,j::todo,seen,hi=>by
  unfold reach at hi ⊢
  split
  ·rename_i hc
   rw[if_pos hc]at hi
   exact Rn n _ _ hi
  ·rename_i hc
   rw[if_neg hc]at hi
   have jA:i≠j:=by
    rintro rfl
    exact hi (Tb n _ _ (by simp))
   rw[cG _ jA]
   exact Rn n _ _ hi
theorem set_set {i:Nat} {ob:cm}:(h.set i ob).set i (h.at i)=h:=by
 rw[List.set_set]
 apply List.ext_getElem?
 intro j
 rw[List.getElem?_set]
 split
 ·rename_i e
  subst e
  split
  ·rename_i hl
   simp[aM.at,List.getD,List.getElem?_eq_getElem hl]
  ·rename_i hl
   exact (List.getElem?_eq_none (by omega)).symm
 ·rfl
theorem WO {o:Op} {ρ:Operand→V} {i:Nat} {ob:cm} (hi:i∉mF o ρ h):mF o ρ (h.set i ob)=mF o ρ h:=by
 unfold mF at hi ⊢
 split at hi <;> try rfl
 split at hi <;> try rfl
 split at hi <;> try rfl
 exact Rn _ _ _ hi
theorem callIds_set2 {o:Op} {ρ:Operand→V} {i:Nat} {ob:cm} (hi:i∉mF o ρ (h.set i ob)):mF o ρ (h.set i ob)=mF o ρ h:=by
 have h1:=WO (ob:=h.at i) hi
 rw[set_set]at h1
 exact h1.symm
theorem pick_set {i:Nat} {ob:cm} {ord:List Nat} (hi:i∉ord):aM.pick (h.set i ob) ord=h.pick ord:=by
 unfold aM.pick
 refine List.map_congr_left fun j hj => ?_
 rw[cG _ (by rintro rfl; exact hi hj)]
theorem Zm {i:Nat} {ob:cm}:∀(l:List (Nat×cm)) (h:aM),(∀x∈l,x.1≠i)→aM.FK (h.set i ob) l=(aM.FK h l).set i ob
 | [],_,_=>rfl
 | x::l,h,hl=>by
  simp only[aM.FK]
  rw[List.set_comm _ _ (Ne.symm (hl x (by simp)))]
  exact Zm l _ fun y hy=>hl y (by simp[hy])
theorem back_set {i:Nat} {ob:cm} {ord:List Nat} (hi:i∉ord) (hl:i<h.length) (h':aM):aM.back (h.set i ob) ord h'=(h.back ord h').set i ob:=by
 unfold aM.back
 simp only[List.length_set]
 rw[Zm _ _ fun x hx=>by
  have:=(List.of_mem_zip hx).1
  rintro rfl
  exact hi this]
 rw[List.set_append_left _ _ (by rw[fU]; exact hl)]
theorem callK_set {E:Env R} {cl:Call} (hp:o4 E (.call cl)=false) (hs:mq E (.call cl)=false) {full:Bool} {fr:List V} {i:Nat} {ob:cm} (hi:i∉mF (.call cl) (ev fr) h) (hl:i<h.length) {k:V→aM→Option R} :
  Dm tt E full cl (ev fr) (h.set i ob) k=Dm tt E full cl (ev fr) h fun v h'=>k v (h'.set i ob):=by
 unfold Dm
 split
 ·rename_i f hf
  split
  ·rename_i g first cap hg
   simp only
   have Ze:mF (.call cl) (ev fr) h=reach h 64 (V.xj (first++cl.args.toList.map (ev fr)++cap)) []:=by simp only[mF,hf,hg]
   rw[Ze]at hi
   split
   ·exfalso
    rename_i hsp
    cases f with
    | tmp t=>simp[o4,hf]at hp
    | func g' =>
     simp only[ev,V.func.injEq]at hg
     obtain ⟨rfl,_,_⟩:=hg
     simp[o4,hf,hsp]at hp
    | const c=>exact Mx hg
    | global _=>simp[ev]at hg
   ·rename_i sp hsp
    cases full
    ·rfl
    ·simp only[cond_true]
     cases hg0:pg.soft g with
     | true =>
      exfalso
      cases f with
      | tmp t=>simp[o4,hf]at hp
      | func g' =>
       simp only[ev,V.func.injEq]at hg
       obtain ⟨rfl,_,_⟩:=hg
       simp[mq,hf,hg0,hsp]at hs
      | const c=>exact Mx hg
      | global _=>simp[ev]at hg
     | false =>
      simp only[cond_false]
      rw[Rn _ _ _ hi,pick_set hi]
      congr 1
      funext v h'
      rw[back_set hi hl,List.length_set]
   ·rfl
  ·rfl
 ·rfl
theorem callK_congr {E:Env R} {cl:Call} {full:Bool} {ρ ρ':Operand→V} (hop:∀z∈cl.operands,ρ' z=ρ z) {k:V→aM→Option R}:Dm tt E full cl ρ' h k=Dm tt E full cl ρ h k:=by
 have Uo:cl.args.toList.map ρ'=cl.args.toList.map ρ:=List.map_congr_left fun z hz=>hop z (by simp[Call.operands]; exact .inr (by simpa using hz))
 unfold Dm
 split
 ·rename_i f hf
  rw[hop f (by simp[Call.operands,hf]),Uo]
 ·rfl
theorem one_eff {E:Env R} {S:Option (Bool×List Nat)} {base:Nat} {all:List Oper} {x y:Oper} {e:Eff} {ix id:Nat} (Pc:Sh (dS tt E x.op) (dS tt E y.op)=true∨(uh y.op=true∧S.map (·.1)≠some true∧(cn tt x=true→id<ix))∨(fy tt x.op = .R∧uh y.op=true)∨(fy tt x.op = .R∧mq E y.op=true)∨(fy tt x.op = .R∧dS tt E y.op = .F)∨(fy tt x.op = .A∧S.map (·.1)=some true∧dS tt E y.op = .F∧mq E y.op=false∧T2 tt all base y≤ix)∨(fy tt x.op = .R∧fy tt y.op = .W)) (hap:D0 all x y=true) (hc:calm (fy tt x.op)=true) (he:e.dst=x.dst)
  (hput:∀i ob,e.put=some (i,ob)→i=ix∧fy tt x.op = .A) (hid:cn tt x=true→cn tt y=true→ix≠id) (hb:cn tt x=true→base≤ix) (ht:cn tt x=true→ix<base+(all.filter (cn tt)).length) (st:St) (k:St→Option R) :
  one tt E S base all y id (eff st e) k=one tt E S base all y id st fun VT=>k (eff VT e):=by
 obtain ⟨a1,a2,a3⟩:=apart_spec hap
 have hl:∀t∈looks all y,(mW st.fr e.dst e.v).getD t .undef=st.fr.getD t .undef:=fun t ht=>putF_getD fun h=>a1 t (he▸h) ht
 have WQ:∀u,mW (mW st.fr e.dst e.v) y.dst u=mW (mW st.fr y.dst u) e.dst e.v:=fun u=>putF_comm fun d hd=>a2 d (he▸hd)
 obtain ⟨fr,hpp⟩:=st
 simp only at hl WQ
 have hokS:SZ tt E base S all y (ev (mW fr e.dst e.v)) (e.hp hpp)=SZ tt E base S all y (ev fr) hpp:=by
  rw[okS_frame hl]
  match S,Pc with
  | none,_=>rfl
  | some (false,A),_=>simp only[SZ]
  | some (true,A),Pc =>
   simp only[SZ]
   split
   ·rfl
   ·rename_i FP
    cases hf:isF tt E y.op with
    | false=>rfl
    | true =>
     have hF:dS tt E y.op = .F:=by revert hf; unfold isF; cases dS tt E y.op <;> simp
     cases hq:e.put with
     | none=>simp only[Eff.hp,hq]
     | some jo =>
      obtain ⟨j,ob⟩:=jo
      obtain ⟨rfl,hA⟩:=hput j ob hq
      have hna:uh y.op=true→False:=fun ha=>by rw[Mv ha]at FP; cases FP
      rcases Pc with Pc|⟨h,_⟩|⟨_,h⟩|⟨h,_⟩|⟨h,_⟩|⟨_,_,_,hsf,hbj⟩|⟨h,_⟩
      ·rw[um (by rw[hA]; simp),hF,hA]at Pc
       cases Pc
      ·exact (hna h).elim
      ·exact (hna h).elim
      ·rw[hA]at h; cases h
      ·rw[hA]at h; cases h
      ·simp only[Eff.hp,hq,hsf,Bool.not_true,Bool.false_or,List.length_set]
       by_cases hm:j∈mF y.op (ev fr) hpp
       ·have hm2:j∈mF y.op (ev fr) (hpp.set j ob):=by
         by_cases hm2:j∈mF y.op (ev fr) (hpp.set j ob)
         ·exact hm2
         ·rw[callIds_set2 hm2]; exact hm
        have hf1:∀l:List Nat,j∈l→l.all (fun i=>Nat.blt i (T2 tt all base y))=false:=fun l hl=>by
         rw[List.all_eq_false]
         exact ⟨j,hl,by simpa using hbj⟩
        rw[hf1 _ hm,hf1 _ hm2]
        simp
       ·rw[WO hm]
      ·rw[hA]at h; cases h
   ·rfl
   ·rfl
 unfold one
 refine Zj hl ?_ ?_
 ·simp only[eff]
  rw[hokS]
  cases hS:SZ tt E base S all y (ev fr) hpp with
  | false=>rfl
  | true =>
  simp only[cond_true]
  unfold EX
  simp only
  split
  ·rw[opP_congr (Le hl)]
   simp only[WQ]
  ·rename_i FP
   rw[drS_ne (by rw[FP]; simp),opR_congr (Le hl),opR_heap (h:=hpp)]
   ·simp only[WQ]
   ·intro i _ hi
    unfold Eff.hp
    split
    ·rfl
    ·rename_i j ob hj
     obtain ⟨rfl,hA⟩:=hput _ _ hj
     have:=hb (by simp[cn,hA])
     simp[Oe]at hi
     rw[cG _ (by omega)]
  ·rename_i FP
   rw[opA_congr (Le hl)]
   simp only[WQ]
   congr 1
   funext ob mk
   congr 2
   unfold Eff.hp
   split
   ·rfl
   ·rename_i j ob' hj
    obtain ⟨rfl,hA⟩:=hput _ _ hj
    exact List.set_comm _ _ (hid (by simp[cn,hA]) (by simp[cn,FP]))
  ·rename_i FP
   rw[lowD_congr (Le hl)]
   cases hlow:lowD (drS tt S base y) y.op (ev fr) id with
   | false=>rfl
   | true =>
    simp only[Bool.not_true,cond_false]
    cases hq:e.put with
    | none =>
     rw[opW_congr (Le hl)]
     simp only[WQ,Eff.hp,hq]
    | some jo =>
     obtain ⟨j,ob⟩:=jo
     obtain ⟨rfl,hA⟩:=hput j ob hq
     have hy:uh y.op=true∧S.map (·.1)≠some true∧id<j:=by
      rcases Pc with h|⟨h,h3,h2⟩|⟨h,_⟩|⟨h,_⟩|⟨h,_⟩|⟨_,_,h,_⟩|⟨h,_⟩
      ·rw[um (by rw[hA]; simp),um (by rw[FP]; simp),hA,FP]at h; cases h
      ·exact ⟨h,h3,h2 (by simp[cn,hA])⟩
      ·rw[hA]at h; cases h
      ·rw[hA]at h; cases h
      ·rw[hA]at h; cases h
      ·rw[um (by rw[FP]; simp),FP]at h; cases h
      ·rw[hA]at h; cases h
     rw[opW_congr (Le hl)]
     simp only[WQ,Eff.hp,hq]
     have hlow':J2 base y.op (ev fr) id=true:=by rw[drS_some hy.2.1]at hlow; exact hlow
     exact opW_set hy.1 hlow' hy.2.2
  ·rename_i FP
   rw[drS_ne (by rw[FP]; simp)]
   split
   ·rename_i cl hcl'
    simp only[WQ]
    have hop:∀z∈cl.operands,ev (mW fr e.dst e.v) z=ev fr z:=fun z hz=>Le hl z (by rw[hcl']; exact hz)
    have Uo:cl.args.toList.map (ev (mW fr e.dst e.v))=cl.args.toList.map (ev fr):=List.map_congr_left fun z hz=>hop z (by simp[Call.operands]; exact .inr (by simpa using hz))
    cases hpl:o4 E y.op with
    | true =>
     have hfull:(Option.isNone (some base) || !true)=false:=rfl
     rw[hcl']at hpl
     rw[hfull]
     unfold Dm
     split
     ·rename_i f hf
      rw[hop f (by simp[Call.operands,hf]),Uo]
      split
      ·split
       ·simp only[cond_false]
       ·rfl
       ·rfl
      ·rfl
     ·rfl
    | false =>
     have hF:dS tt E y.op = .F:=by unfold dS; rw[FP]; simp[hpl]
     rw[callK_congr hop]
     cases hq:e.put with
     | none =>
      have hh2:∀h2,e.hp h2=h2:=fun h2=>by simp[Eff.hp,hq]
      simp only[hh2]
     | some jo =>
      obtain ⟨j,ob⟩:=jo
      obtain ⟨rfl,hA⟩:=hput j ob hq
      have hna:uh y.op=true→False:=fun ha=>by rw[Mv ha]at FP; cases FP
      rcases Pc with Pc|⟨h,_⟩|⟨_,h⟩|⟨h,_⟩|⟨h,_⟩|⟨_,h2,_,hsf,hbj⟩|⟨h,_⟩
      ·rw[um (by rw[hA]; simp),hF,hA]at Pc
       cases Pc
      ·exact (hna h).elim
      ·exact (hna h).elim
      ·rw[hA]at h; cases h
      ·rw[hA]at h; cases h
      ·have hh2:∀h2,e.hp h2=h2.set j ob:=fun h2=>by simp[Eff.hp,hq]
       simp only[hh2]
       have hif:isF tt E y.op=true:=by unfold isF; rw[hF]
       match S,h2,hS with
       | some (true,A),_,hS =>
        simp only[SZ,FP,hif,hsf,Bool.not_true,Bool.false_or,Bool.and_eq_true,List.all_eq_true]at hS
        have htj:=ht (by simp[cn,hA])
        have h3:base+(all.filter (cn tt)).length≤hpp.length:=by simpa using hS.1.1
        rw[hcl']at hpl hsf
        refine callK_set hpl hsf (fun hm => ?_) (by omega)
        have h4:=hS.1.2 j (by rw[hcl']; exact hm)
        simp at h4
        omega
      ·rw[hA]at h; cases h
   ·rfl
  ·rfl
  ·rfl
 ·simp only[eff,WQ]
theorem callK_soft {E:Env R} (hE:EOk P E) {cl:Call} (hs:mq E (.call cl)=true) {full:Bool} {fr:List V} {k k':V→aM→Option R} (he:∀v,k v h=k' v h) :
  Dm tt E full cl (ev fr) h k=Dm tt E full cl (ev fr) h k':=by
 unfold mq at hs
 simp only at hs
 split at hs
 ·rename_i g hg
  simp only[Bool.and_eq_true]at hs
  obtain ⟨h1,h2⟩:=hs
  split at h2
  ·rename_i sp hsp
   unfold Dm
   simp only[hg,ev,hsp,h1]
   cases full
   ·rfl
   ·simp only[cond_true]
    exact (hE g _ sp hsp).2 rfl h1 _ _ _ _ he
  ·cases h2
 ·cases hs
theorem callK_back {E:Env R} {cl:Call} (hp:o4 E (.call cl)=false) (hs:mq E (.call cl)=false) {full:Bool} {fr:List V} {k k':V→aM→Option R}
  (he:∀v h',(∀i,i<h.length→i∉mF (.call cl) (ev fr) h→h'.at i=h.at i)→k v h'=k' v h') (h0:∀v,k v h=k' v h):Dm tt E full cl (ev fr) h k=Dm tt E full cl (ev fr) h k':=by
 unfold Dm
 split
 ·rename_i f hf
  split
  ·rename_i g first cap hg
   simp only
   split
   ·split
    ·congr 1
     funext v h'
     cases h' with
     | nil=>exact h0 v
     | cons _ _=>rfl
    ·cases full
     ·rfl
     ·simp only[cond_true]
      unfold lendK
      split
      ·congr 1
       funext v h'
       cases h' with
       | nil=>simp only[h0]
       | cons _ _=>rfl
      ·rfl
   ·rename_i sp hsp
    cases full
    ·rfl
    ·simp only[cond_true]
     cases hg0:pg.soft g with
     | true =>
      exfalso
      cases f with
      | tmp t=>simp[o4,hf]at hp
      | func g' =>
       simp only[ev,V.func.injEq]at hg
       obtain ⟨rfl,_,_⟩:=hg
       simp[mq,hf,hg0,hsp]at hs
      | const c=>exact Mx hg
      | global _=>simp[ev]at hg
     | false =>
      simp only[cond_false]
      congr 1
      funext v h'
      refine he _ _ fun i hi hn => ?_
      unfold aM.back
      simp only
      rw[kl (by rw[fU]; exact hi)]
      refine Mu _ _ _ ?_
      simpa only[mF,hf,hg]using hn
   ·rfl
  ·rfl
 ·rfl
theorem VU {all:List Oper} {x:Oper} (h:r7 all x=true∨wA all x=true):∃t a y,x.op = .store t a y∧x.dst=none∧x.guard=none:=by
 rcases h with h|h
 ·unfold r7 at h
  split at h
  ·rename_i ho
   simp only[Bool.and_eq_true,Option.isNone_iff_eq_none]at h
   exact ⟨_,_,_,ho,h.1.1,h.1.2⟩
  ·cases h
 ·unfold wA at h
  split at h
  ·rename_i ho
   simp only[Bool.and_eq_true,Option.isNone_iff_eq_none]at h
   exact ⟨_,_,_,ho,h.1.1,h.1.2⟩
  ·cases h
theorem My {all:List Oper} {x:Oper} (h:viaS all x=true):∃t a y,x.op = .store t a y∧x.dst=none∧x.guard=none:=by
 unfold viaS at h
 rw[Bool.or_eq_true]at h
 rcases h with h|h
 ·exact VU (.inl h)
 ·unfold viaMade at h
  split at h
  ·rename_i ho
   simp only[Bool.and_eq_true,Option.isNone_iff_eq_none]at h
   exact ⟨_,_,_,ho,h.1.1,h.1.2⟩
  ·cases h
theorem Ro {all:List Oper} {x y:Oper} (h:farW all x y=true):(r7 all x=true∧wA all y=true)∨(wA all x=true∧r7 all y=true):=by
 simpa only[farW,Bool.or_eq_true,Bool.and_eq_true]using h
theorem Lf {all:List Oper} {x y:Oper} (h:farW all x y=true):fy tt x.op = .W∧fy tt y.op = .W:=by
 have h1:∀z,r7 all z=true∨wA all z=true→fy tt z.op = .W:=fun z hz=>by
  obtain ⟨t,a,y,e,_⟩:=VU hz
  rw[e]; rfl
 rcases Ro h with ⟨h2,h3⟩|⟨h2,h3⟩
 ·exact ⟨h1 _ (.inl h2),h1 _ (.inr h3)⟩
 ·exact ⟨h1 _ (.inr h2),h1 _ (.inl h3)⟩
theorem WR (t:Nat) (a y:Operand) (ρ:Operand→V) (h:aM) (id:Nat) :
  (∀k:V→aM→Option R,YI tt (.store t a y) ρ h id k=none)∨∃i ob,i∈(ρ a).ids∧∀(h2:aM) (id2:Nat) (k:V→aM→Option R),h2.at i=h.at i→YI tt (.store t a y) ρ h2 id2 k=k .undef (h2.set i ob):=by
 simp only[YI]
 cases hvs:flatK (ρ y)with
 | none=>exact .inl fun k=>rfl
 | some vs =>
 simp only
 by_cases hc:(tt.ok t&&decide (vs.length=(tt.at t).size))=true
 rotate_left
 ·exact .inl fun k=>by rw[if_neg hc]
 simp only[hc,if_true]
 cases hx:ρ a with
 | ptr i o =>
  simp only
  cases hi:h.at i with
  | cells cs =>
   by_cases hle:o+vs.length≤cs.length
   ·exact .inr ⟨i, .cells (FM cs o vs),by simp[V.ids],fun h2 id2 k e=>by simp only[e,hi,hle,if_true]⟩
   ·exact .inl fun k=>by simp only[hle,if_false]
  | mE bv =>
   match o,vs with
   | 1, [v]=>exact .inr ⟨i, .mE v,by simp[V.ids],fun h2 id2 k e=>by simp only[e,hi]⟩
   | 0,_=>exact .inl fun k=>rfl
   | 1, []=>exact .inl fun k=>rfl
   | 1,_::_::_=>exact .inl fun k=>rfl
   | _+2,_=>exact .inl fun k=>rfl
  | _=>exact .inl fun k=>rfl
 | xi i sz j o =>
  simp only
  cases hi:h.at i with
  | row T l =>
   by_cases qE:sz=T.sz
   ·by_cases hle:o+vs.length≤(T.cells (l.getD j T.bR)).length
    ·cases hz:T.dec (FM (T.cells (l.getD j T.bR)) o vs)with
     | none=>exact .inl fun k=>by simp only[qE,hle,if_true,hz]
     | some z =>
      by_cases hj:j<l.length
      ·exact .inr ⟨i, .row T (l.set j z),by simp[V.ids],fun h2 id2 k e=>by simp only[e,hi,qE,hle,if_true,hz,cw,hj,decide_true,cond_true]⟩
      ·exact .inl fun k=>by simp only[qE,hle,if_true,hz,cw,hj,decide_false,cond_false]
    ·exact .inl fun k=>by simp only[qE,hle,if_true,if_false]
   ·exact .inl fun k=>by simp only[qE,if_false]
  | _=>exact .inl fun k=>rfl
 | _=>exact .inl fun k=>rfl
theorem store_nat {t:Nat} {a y:Operand} {ρ:Operand→V} {id:Nat} {k0:V→aM→Option R} {r:R} (hk:YI tt (.store t a y) ρ h id k0=some r) :
  ∃i ob,i∈(ρ a).ids∧k0 .undef (h.set i ob)=some r∧∀(h2:aM) (id2:Nat) (k:V→aM→Option R),h2.at i=h.at i→YI tt (.store t a y) ρ h2 id2 k=k .undef (h2.set i ob):=by
 rcases WR (tt:=tt) (R:=R) t a y ρ h id with h1|⟨i,ob,h1,h2⟩
 ·rw[h1]at hk; cases hk
 ·rw[h2 h id k0 rfl]at hk
  exact ⟨i,ob,h1,hk,h2⟩
theorem VV {E:Env R} (hE:EOk P E) {S:Option (Bool×List Nat)} {base:Nat} {all:List Oper} {y:Oper} {id:Nat} {st:St} {k k':St→Option R} (hb:cn tt y=true→base≤id)
  (h:∀v hp',Kept S tt E all base y st.hp hp'→k ⟨mW st.fr y.dst v,hp'⟩=k' ⟨mW st.fr y.dst v,hp'⟩):one tt E S base all y id st k=one tt E S base all y id st k':=by
 have h0:∀v,k ⟨mW st.fr y.dst v,st.hp⟩=k' ⟨mW st.fr y.dst v,st.hp⟩:=fun v=>h v _ (.inl fun _ _=>rfl)
 obtain ⟨fr,hpp⟩:=st
 unfold one
 refine Zj (fun _ _=>rfl) ?_ (h0 _)
 cases hS:SZ tt E base S all y (ev fr) hpp with
 | false=>rfl
 | true =>
 simp only[cond_true]
 unfold EX
 simp only at h h0 ⊢
 split
 ·simp only[h0]
 ·simp only[h0]
 ·rename_i FP
  congr 1
  funext ob mk
  refine h _ _ (.inl fun i hi => ?_)
  have:=hb (by simp[cn,FP])
  rw[cG _ (by omega)]
 ·rename_i FP
  have hbi:=hb (by simp[cn,FP])
  cases hlow:lowD (drS tt S base y) y.op (ev fr) id with
  | false=>rfl
  | true =>
   simp only[Bool.not_true,cond_false]
   by_cases ha:uh y.op=true
   ·by_cases hst:S.map (·.1)=some true
    ·congr 1
     funext v h'
     refine h v h' (.inr ⟨.inr ⟨hst,ha⟩,fun hF => ?_,fun hv => ?_⟩)
     ·rw[um (by rw[FP]; simp),FP]at hF; cases hF
     ·obtain ⟨t,a,z,ey,_⟩:=My hv
      rw[ey]at ha; cases ha
    have hlow':J2 base y.op (ev fr) id=true:=by rw[drS_some hst]at hlow; exact hlow
    exact opW_mono ha hbi hlow' fun v h' hrd=>h v h' (.inl fun i hi=>hrd i (by omega))
   ·have htu:turns tt E y.op := .inl ⟨by rw[um (by rw[FP]; simp),FP],by simpa using ha⟩
    have hnF:dS tt E y.op ≠ .F:=fun hF=>by rw[um (by rw[FP]; simp),FP]at hF; cases hF
    by_cases hv:viaS all y=true
    ·obtain ⟨t,a,z,ey,_,_⟩:=My hv
     rw[ey]
     rcases WR (tt:=tt) (R:=R) t a z (ev fr) hpp id with h1|⟨i,ob,h1,h2⟩
     ·rw[h1,h1]
     ·rw[h2 hpp id _ rfl,h2 hpp id _ rfl]
      refine h _ _ (.inr ⟨.inl htu,fun hF=>(hnF hF).elim,fun _ A hA j hj => ?_⟩)
      subst hA
      simp only[SZ,FP,hv,Bool.not_true,Bool.false_or,List.all_eq_true]at hS
      have h3:=hS i (by rw[ey]; exact h1)
      rw[cG _ (by rintro rfl; exact hj (by simpa using h3))]
    ·congr 1
     funext v h'
     exact h v h' (.inr ⟨.inl htu,fun hF=>(hnF hF).elim,fun hv2=>(hv hv2).elim⟩)
 ·rename_i FP
  rw[drS_ne (by rw[FP]; simp)]
  split
  ·rename_i cl Pc
   cases hpl:o4 E y.op with
   | true =>
    have hfull:(Option.isNone (some base) || !true)=false:=rfl
    rw[hfull]
    unfold Dm
    split
    ·split
     ·split
      ·simp only
       split
       ·congr 1
        funext v h'
        cases h' with
        | nil=>exact h0 v
        | cons _ _=>rfl
       ·rfl
      ·rfl
      ·rfl
     ·rfl
    ·rfl
   | false =>
    have hF:dS tt E y.op = .F:=by unfold dS; rw[FP]; simp[hpl]
    cases hs:mq E y.op with
    | true=>exact callK_soft hE (by rw[←Pc]; exact hs) fun v=>h0 v
    | false =>
     have htu:turns tt E y.op := .inr ⟨hF,hs⟩
     refine callK_back (by rw[Pc]at hpl; exact hpl) (by rw[Pc]at hs; exact hs) (fun v h' hh=>h v h' (.inr ⟨.inl htu,fun _ A hA => ?_,fun hv => ?_⟩)) fun v=>h0 v
     rotate_left
     ·obtain ⟨t,a,z,ey,_⟩:=My hv
      rw[ey]at Pc; cases Pc
     subst hA
     have hif:isF tt E y.op=true:=by unfold isF; rw[hF]
     simp only[SZ,FP,hif,hs,Bool.not_true,Bool.false_or,List.all_eq_true,Bool.and_eq_true]at hS
     intro i hi
     have h1:=hS.2 i hi
     rw[Pc]at h1
     rw[hh i (by simpa using h1.1) (by simpa using h1.2)]
  ·rfl
 ·rfl
 ·rfl
end
section
variable {P:Program} {tt:dd} {w w':World} {h h':aM} {c c':jI} {R:Type}
theorem wp_const {o:Oper} {a:Act} {G:Prop} (h:o.wp P a w (fun _ _=>G) (fun _ _ _=>G)):G:=by
 unfold Oper.wp at h
 generalize (execOp a.eval o).run P w=r at h
 cases r with
 | ok n w' =>
  cases n <;> simp only[Oper.upon]at h <;> try (first|exact h|exact h.elim)
  ·obtain ⟨e,w',fr,hR,_⟩:=h []
   cases e with
   | returned v=>exact hR
   | panicked c=>exact hR
   | outgrown=>obtain ⟨_,_,g⟩:=hR; exact g
  ·obtain ⟨v,w',g,_⟩:=h (Frame.enter P 0 #[] .normal) []
   exact g
 | halt x w'=>cases x <;> simp only[Oper.upon]at h <;> first|exact h|exact h.elim
theorem one_reach (T:AU P tt) {E:Env R} (hE:EOk P E) {S:Option (Bool×List Nat)} {base:Nat} {ops:Array Oper} {y:Oper} {id:Nat} {st:St} {a:Act} {k:St→Option R} {r:R} (hk:one tt E S base ops.toList y id st k=some r) (iG:S9 w c st a)
  (hid:cn tt y=true→base≤id∧id<st.hp.length∧st.hp.at id = .free) :
  ∃w1 c1 VT a1 v,S9 w1 c1 VT a1∧k VT=some r∧VT.fr=mW st.fr y.dst v∧Kept S tt E ops.toList base y st.hp VT.hp∧xI (cn tt y) id st.hp VT.hp:=by
 classical
 obtain ⟨k',ui,hof⟩:∃k':St→Option R,one tt E S base ops.toList y id st k'=some r∧∀VT,k' VT=some r→k VT=some r∧Kept S tt E ops.toList base y st.hp VT.hp:=by
  refine ⟨fun VT=>if Kept S tt E ops.toList base y st.hp VT.hp then k VT else none,?_,fun VT e => ?_⟩
  ·rw[←hk]
   refine VV hE (fun ha=>(hid ha).1) fun v hp' ht => ?_
   rw[if_pos ht]
  ·simp only at e
   split at e
   ·exact ⟨e, ‹_›⟩
   ·cases e
 rcases Mw iG ui with ⟨_,hk⟩|⟨_,hk⟩
 ·have hk:EX tt E (drS tt S base y) id y st k'=some r:=by
   cases hS:SZ tt E base S ops.toList y (ev st.fr) st.hp with
   | true=>rw[hS]at hk; exact hk
   | false=>rw[hS]at hk; cases hk
  refine wp_const (P:=P) (o:=y) (a:=a) (w:=w) (Pn T hE hk iG (fun ha=>(hid ha).2) fun d w' xH c' v sim' x kp hf _ ui => ?_)
  exact ⟨w',c',xH,_,v,sim',(hof _ ui).1,hf,(hof _ ui).2,kp⟩
 ·exact ⟨w,c,⟨mW st.fr y.dst (.tuple []),st.hp⟩,a.put y.dst undef, .tuple [],⟨iG.wf,GX iG.fr _ VS⟩,(hof _ hk).1,rfl, .inl fun _ _=>rfl, .refl _ _ _⟩
structure Good (tt:dd) (base:Nat) (all:List Oper) (rem:List AW) (h:aM):Prop where
 top:∀z∈rem,cn tt z.2.1=true→z.2.2<base+(all.filter (cn tt)).length
 cap:rem.Pairwise fun z z'=>cn tt z'.2.1=true→T2 tt all base z.2.1≤z'.2.2
 slot:∀z∈rem,cn tt z.2.1=true→base≤z.2.2∧z.2.2<h.length∧h.at z.2.2 = .free
 apart:rem.Pairwise fun z z'=>cn tt z.2.1=true→cn tt z'.2.1=true→z.2.2<z'.2.2
theorem Good.sub {base:Nat} {all:List Oper} {rem rem':List AW} (g:Good tt base all rem h) (hs:List.Sublist rem' rem):Good tt base all rem' h :=
 ⟨fun z hz=>g.top z (hs.subset hz),g.cap.sublist hs,fun z hz=>g.slot z (hs.subset hz),g.apart.sublist hs⟩
theorem Good.step {base:Nat} {all:List Oper} {x:AW} {pre post:List AW} (g:Good tt base all (pre++x::post) h) (kp:xI (cn tt x.2.1) x.2.2 h h'):Good tt base all (pre++post) h':=by
 have hs:List.Sublist (pre++post) (pre++x::post):=List.Sublist.append (List.Sublist.refl _) (List.sublist_cons_self _ _)
 refine ⟨fun z hz=>g.top z (hs.subset hz),g.cap.sublist hs,fun z hz ha => ?_,g.apart.sublist hs⟩
 obtain ⟨h1,h2,h3⟩:=g.slot z (hs.subset hz) ha
 refine ⟨h1,Nat.lt_of_lt_of_le h2 kp.1,kp.2 _ (fun hx => ?_) h2 h3⟩
 have hp:=g.apart
 rw[List.pairwise_append,List.pairwise_cons]at hp
 rcases List.mem_append.1 hz with hz|hz
 ·have:=hp.2.2 z hz x (by simp) ha hx; omega
 ·have:=hp.2.1.1 z hz hx ha; omega
theorem Zn {all:List Oper} {x y:Oper} (h2:D0 all x y=true):D0 all y x=true:=by
 obtain ⟨a1,a2,a3⟩:=apart_spec h2
 simp only[D0,Bool.and_eq_true]
 constructor
 ·cases hd:y.dst with
  | none=>rfl
  | some d =>
   have h3:=a3 d hd
   have h4:x.dst≠some d:=fun e=>a2 d e hd
   simp[h3,h4]
 ·cases hd:x.dst with
  | none=>rfl
  | some d=>simp[a1 d hd]
theorem Zo {a b:Cls} (h:Sh a b=true):Sh b a=true:=by revert h; cases a <;> cases b <;> simp[Sh]
theorem Hu {E:Env R} {all:List Oper} {x y:Oper} (h:VF tt E all x y=true):D0 all x y=true ∧
  (Sh (dS tt E x.op) (dS tt E y.op)=true∨(uh x.op=true∧(dS tt E y.op = .A∨dS tt E y.op = .R))∨(dS tt E x.op = .R∧uh y.op=true)∨(mq E x.op=true∧dS tt E y.op = .R)∨(dS tt E x.op = .R∧mq E y.op=true)):=by
 simp only[VF,Bool.and_eq_true,Bool.or_eq_true,tokPair]at h
 obtain ⟨h1,h2⟩:=h
 refine ⟨h2,?_⟩
 rcases h1 with h1|(⟨h1,h3⟩|⟨h1,h3⟩)|(⟨h1,h3⟩|⟨h1,h3⟩)
 ·exact .inl h1
 ·refine .inr (.inl ⟨h1,?_⟩)
  revert h3; cases dS tt E y.op <;> simp
 ·refine .inr (.inr (.inl ⟨?_,h3⟩))
  revert h1; cases dS tt E x.op <;> simp
 ·refine .inr (.inr (.inr (.inl ⟨h1,?_⟩)))
  revert h3; cases dS tt E y.op <;> simp
 ·refine .inr (.inr (.inr (.inr ⟨?_,h3⟩)))
  revert h1; cases dS tt E x.op <;> simp
theorem Zp {E:Env R} {o:Op} (h:isF tt E o=true):dS tt E o = .F:=by revert h; unfold isF; cases dS tt E o <;> simp
theorem far_spec {E:Env R} {all:List Oper} {x:Oper} (h:farR tt E all x=true):dS tt E x.op = .R:=by
 simp only[farR,Bool.and_eq_true]at h
 revert h
 cases dS tt E x.op <;> simp
theorem far2_spec {E:Env R} {all:List Oper} {x:Oper} (h:farR2 tt E all x=true):dS tt E x.op = .R:=by
 simp only[farR2,Bool.and_eq_true]at h
 revert h
 cases dS tt E x.op <;> simp
theorem tB {E:Env R} {far:Option Bool} {all:List Oper} {x y:Oper} (h:Of tt E far all x y=true):D0 all x y=true∧((VF tt E all x y=true∧(far=some true→noApp tt E x y=true))∨(far=some true ∧
  ((farR tt E all x=true∧dS tt E x.op = .R∧dS tt E y.op = .F)∨(dS tt E x.op = .F∧mq E x.op=false∧fy tt y.op = .A)∨farW all x y=true∨(dS tt E x.op = .F∧farR tt E all y=true∧dS tt E y.op = .R)))∨(far=some false∧farR2 tt E all x=true∧dS tt E x.op = .R∧viaS all y=true)):=by
 unfold Of at h
 simp only[Bool.or_eq_true,Bool.and_eq_true]at h
 rcases h with ⟨h,hn⟩|h
 ·exact ⟨(Hu h).1, .inl ⟨h,fun e=>by subst e; exact hn⟩⟩
 ·split at h
  ·cases h
  ·simp only[Bool.or_eq_true,Bool.and_eq_true]at h
   rcases h with ⟨((⟨h2,h3⟩|⟨h2,h3,h5⟩)|h2)|⟨h2,h3⟩,h4⟩
   ·exact ⟨h4, .inr (.inl ⟨rfl, .inl ⟨h2,far_spec h2,Zp h3⟩⟩)⟩
   ·refine ⟨h4, .inr (.inl ⟨rfl, .inr (.inl ⟨Zp h2,by simpa using h3,?_⟩)⟩)⟩
    revert h5
    cases fy tt y.op <;> simp
   ·exact ⟨h4, .inr (.inl ⟨rfl, .inr (.inr (.inl h2))⟩)⟩
   ·exact ⟨h4, .inr (.inl ⟨rfl, .inr (.inr (.inr ⟨Zp h2,h3,far_spec h3⟩))⟩)⟩
  ·simp only[Bool.and_eq_true]at h
   exact ⟨h.2, .inr (.inr ⟨rfl,h.1.1,far2_spec h.1.1,h.1.2⟩)⟩
theorem Zq {all:List Oper} {x:Oper} (h:viaS all x=true):fy tt x.op = .W:=by
 obtain ⟨t,a,y,e,_⟩:=My h
 rw[e]; rfl
theorem store_one {E:Env R} {S:Option (Bool×List Nat)} {base:Nat} {all:List Oper} {x:Oper} {id:Nat} {fr:List V} {k0:St→Option R} {r:R} (hx:r7 all x=true∨wA all x=true) (hk:one tt E S base all x id ⟨fr,h⟩ k0=some r) :
  SZ tt E base S all x (ev fr) h=true∧∃i ob,i∈HE x.op (ev fr)∧k0 ⟨fr,h.set i ob⟩=some r∧∀(h2:aM) (id2:Nat) (k:St→Option R),h2.at i=h.at i→one tt E S base all x id2 ⟨fr,h2⟩ k=k ⟨fr,h2.set i ob⟩:=by
 obtain ⟨t,a,y,e,hd,hg⟩:=VU hx
 obtain ⟨dst,op,ty,pos,after,guard⟩:=x
 simp only at e hd hg
 subst e hd hg
 unfold one at hk ⊢
 rw[Ht]at hk
 simp only at hk
 have hS:SZ tt E base S all ⟨none, .store t a y,ty,pos,after,none⟩ (ev fr) h=true:=by
  cases hS:SZ tt E base S all ⟨none, .store t a y,ty,pos,after,none⟩ (ev fr) h with
  | true=>rfl
  | false=>rw[hS]at hk; cases hk
 refine ⟨hS,?_⟩
 have hst:∀(dr:Option Nat) (id:Nat) (h:aM) (k:St→Option R),EX tt E dr id ⟨none, .store t a y,ty,pos,after,none⟩ ⟨fr,h⟩ k=YI tt (.store t a y) (ev fr) h id fun v h=>k ⟨mW fr none v,h⟩:=fun dr id h k=>by cases dr <;> rfl
 rw[hS,cond_true,hst]at hk
 obtain ⟨i,ob,h1,h2,h3⟩:=store_nat (tt:=tt) (t:=t) (a:=a) (y:=y) (ρ:=ev fr) (id:=id) (k0:=fun v h=>k0 ⟨mW fr none v,h⟩) hk
 refine ⟨i,ob,h1,h2,fun hh id2 k e => ?_⟩
 rw[Ht]
 simp only
 have hS2:SZ tt E base S all ⟨none, .store t a y,ty,pos,after,none⟩ (ev fr) hh=true:=by
  rw[←hS]
  match S with
  | none=>rfl
  | some (true,A)=>rfl
  | some (false,A)=>rfl
 rw[hS2,cond_true,hst]
 exact h3 hh id2 (fun v h=>k ⟨mW fr none v,h⟩) e
theorem Zr {E:Env R} {o:Op} (hs:mq E o=true):fy tt o = .C:=by
 unfold mq at hs
 split at hs
 ·split at hs
  ·rename_i cl _ g hg
   simp only[fy,hg]
  ·cases hs
 ·cases hs
theorem soft_in {E:Env R} {o:Op} (hs:mq E o=true):dS tt E o = .F:=by
 have hc:=Zr (tt:=tt) hs
 have hp:o4 E o=false:=by
  unfold mq at hs
  unfold o4
  split at hs
  ·split at hs
   ·rename_i cl _ g hg
    simp only[Bool.and_eq_true]at hs
    obtain ⟨_,h2⟩:=hs
    split at h2
    ·rename_i sp hsp
     simp only[hg,hsp]
    ·cases h2
   ·cases hs
  ·cases hs
 unfold dS
 rw[hc,hp]
 rfl
theorem app_in {E:Env R} {o:Op} (ha:uh o=true):dS tt E o = .W:=by rw[um (by rw[Mv ha]; simp),Mv ha]
theorem VW {E:Env R} {o:Op} {a:Cls} (h:dS tt E o=a) (h1:a ≠ .C) (h2:a ≠ .F):fy tt o=a:=by
 unfold dS at h
 split at h
 ·revert h; cases o4 E o <;> intro h <;> subst h <;> simp at h1 h2
 ·exact h
theorem turns_not {E:Env R} {all:List Oper} {x y:Oper} (h:VF tt E all x y=true∨VF tt E all y x=true) (hR:fy tt x.op = .R):¬turns tt E y.op:=by
 have hx:dS tt E x.op = .R:=by rw[um (by rw[hR]; simp),hR]
 intro ht
 have hna:uh y.op=true→False:=fun ha=>by
  rcases ht with ⟨_,h⟩|⟨h,_⟩
  ·rw[ha]at h; cases h
  ·rw[app_in ha]at h; cases h
 have TY:mq E y.op=true→False:=fun hs=>by
  rcases ht with ⟨h,_⟩|⟨_,h⟩
  ·rw[soft_in hs]at h; cases h
  ·rw[hs]at h; cases h
 have hc:Sh .R (dS tt E y.op)=false:=by rcases ht with ⟨h,_⟩|⟨h,_⟩ <;> rw[h] <;> rfl
 rcases h with h|h
 ·rcases (Hu h).2 with h|⟨h,_⟩|⟨_,h⟩|⟨h,_⟩|⟨_,h⟩
  ·rw[hx,hc]at h; cases h
  ·rw[app_in h]at hx; cases hx
  ·exact hna h
  ·rw[soft_in h]at hx; cases hx
  ·exact TY h
 ·rcases (Hu h).2 with h|⟨h,_⟩|⟨h,h'⟩|⟨h,_⟩|⟨_,h⟩
  ·have:=Zo h; rw[hx,hc]at this; cases this
  ·exact hna h
  ·rw[app_in h']at hx; cases hx
  ·exact TY h
  ·rw[soft_in h]at hx; cases hx
theorem Jq.symm {S:Option (Bool×List Nat)} {E:Env R} {all:List Oper} {base:Nat} {x:Oper} {s t:St} (h:Jq S E all tt base x s t):Jq S E all tt base x t s:=⟨fun u hu=>(h.1 u hu).symm,fun hR i hi hA hB=>(h.2 hR i hi hA hB).symm⟩
theorem Jq.trans {S:Option (Bool×List Nat)} {E:Env R} {all:List Oper} {base:Nat} {x:Oper} {s t u:St} (h:Jq S E all tt base x s t) (h':Jq S E all tt base x t u):Jq S E all tt base x s u :=
 ⟨fun v hv=>(h'.1 v hv).trans (h.1 v hv),fun hR i hi hA hB=>(h'.2 hR i hi hA hB).trans (h.2 hR i hi hA hB)⟩
theorem Mz {E:Env R} {S:Option (Bool×List Nat)} {all:List Oper} {base:Nat} {x y:Oper} (hp:Of tt E (S.map (·.1)) all x y=true∨Of tt E (S.map (·.1)) all y x=true) {st VT:St} {v:V} (hf:VT.fr=mW st.fr y.dst v) (hh:Kept S tt E all base y st.hp VT.hp) :
  Jq S E all tt base x st VT:=by
 have h2:D0 all y x=true:=by
  rcases hp with h|h
  ·exact Zn (tB h).1
  ·exact (tB h).1
 refine ⟨fun t ht => ?_,fun hR i hi hA hB => ?_⟩
 ·rw[hf]
  exact putF_getD fun e=>(apart_spec h2).1 t e ht
 ·rcases hh with hh|⟨hW,hh,hh2⟩
  ·exact hh i hi
  ·have hx:dS tt E x.op = .R:=by rw[um (by rw[hR]; simp),hR]
   rcases hp with h|h
   ·rcases (tB h).2 with ⟨h,hn⟩|⟨h1,⟨h3,_,h4⟩|⟨h4,_⟩|h4|⟨h4,_⟩⟩|⟨h1,h3,_,h4⟩
    ·rcases hW with hW|⟨hst,ha⟩
     ·exact (turns_not (.inl h) hR hW).elim
     ·have:=hn hst
      simp[noApp,rdA,hx,ha]at this
    ·match S,h1 with
     | some (true,A),_=>exact hh h4 A rfl i (hA A rfl h3)
    ·rw[hx]at h4; cases h4
    ·rw[(Lf (tt:=tt) h4).1]at hR; cases hR
    ·rw[hx]at h4; cases h4
    ·match S,h1 with
     | some (false,A),_=>exact hh2 h4 A rfl i (hB A rfl h3)
   ·rcases (tB h).2 with ⟨h,hn⟩|⟨h1,⟨_,_,h4⟩|⟨_,_,h4⟩|h4|⟨h4,h3,_⟩⟩|⟨_,_,_,h4⟩
    ·rcases hW with hW|⟨hst,ha⟩
     ·exact (turns_not (.inr h) hR hW).elim
     ·have:=hn hst
      simp[noApp,rdA,hx,ha]at this
    ·rw[hx]at h4; cases h4
    ·rw[hR]at h4; cases h4
    ·rw[(Lf (tt:=tt) h4).2]at hR; cases hR
    ·match S,h1 with
     | some (true,A),_=>exact hh h4 A rfl i (hA A rfl h3)
    ·rw[Zq (tt:=tt) h4]at hR; cases hR
section
variable {E:Env R} {S:Option (Bool×List Nat)} {base:Nat} {ops:Array Oper} {k:St→Option R} {r:R}
theorem pull (hE:EOk P E) {x:AW} {e:Eff} {st0:St} (hc:calm (fy tt x.2.1.op)=true) (he:e.dst=x.2.1.dst) (hput:∀i ob,e.put=some (i,ob)→i=x.2.2∧fy tt x.2.1.op = .A)
  (hnat:∀I0,Jq S E ops.toList tt base x.2.1 st0 I0→∀k,one tt E S base ops.toList x.2.1 x.2.2 I0 k=k (eff I0 e)) (post:List AW) :
  ∀(pre:List AW) (st:St) (h:aM),Good tt base ops.toList (pre++x::post) h→(∀y∈pre,Of tt E (S.map (·.1)) ops.toList y.2.1 x.2.1=true)→Jq S E ops.toList tt base x.2.1 st0 st →
   OJ tt E S base ops.toList (pre++x::post) st k=OJ tt E S base ops.toList (pre++post) (eff st e) k
 | [],st,_,_,_,ha=>hnat st ha _
 | y::pre,st,h,g,hp,ha=>by
  have hpy:=hp y (by simp)
  have gx:cn tt x.2.1=true→base≤x.2.2:=fun hx=>(g.slot x (by simp) hx).1
  have gy:cn tt y.2.1=true→base≤y.2.2:=fun hx=>(g.slot y (by simp) hx).1
  have glt:cn tt x.2.1=true→cn tt y.2.1=true→y.2.2<x.2.2:=fun hx hy=>by
   have:=g.apart
   rw[List.cons_append,List.pairwise_cons]at this
   exact this.1 x (by simp) hy hx
  have gne:cn tt x.2.1=true→cn tt y.2.1=true→x.2.2≠y.2.2:=fun hx hy=>by have:=glt hx hy; omega
  have Pc:Sh (dS tt E x.2.1.op) (dS tt E y.2.1.op)=true∨(uh y.2.1.op=true∧S.map (·.1)≠some true∧(cn tt x.2.1=true→y.2.2<x.2.2))∨(fy tt x.2.1.op = .R∧uh y.2.1.op=true)∨(fy tt x.2.1.op = .R∧mq E y.2.1.op=true)∨(fy tt x.2.1.op = .R∧dS tt E y.2.1.op = .F)∨(fy tt x.2.1.op = .A∧S.map (·.1)=some true∧dS tt E y.2.1.op = .F∧mq E y.2.1.op=false∧T2 tt ops.toList base y.2.1≤x.2.2)∨(fy tt x.2.1.op = .R∧fy tt y.2.1.op = .W):=by
   rcases (tB hpy).2 with ⟨hpo,hna⟩|⟨hSo,⟨_,_,hF⟩|⟨hF,hsf,hA⟩|hW|⟨hF,_,hR⟩⟩|⟨_,_,_,hW⟩
   rotate_left
   rotate_left
   ·have iN:T2 tt ops.toList base y.2.1≤x.2.2:=by
     have:=g.cap
     rw[List.cons_append,List.pairwise_cons]at this
     exact this.1 x (by simp) (by simp[cn,hA])
    exact .inr (.inr (.inr (.inr (.inr (.inl ⟨hA,hSo,hF,hsf,iN⟩)))))
   ·rw[(Lf (tt:=tt) hW).2]at hc; cases hc
   ·exact .inr (.inr (.inr (.inr (.inl ⟨VW hR (by simp) (by simp),hF⟩))))
   ·rw[Zq (tt:=tt) hW]at hc; cases hc
   rotate_left
   ·have hC:fy tt x.2.1.op = .C:=by
     unfold dS at hF
     split at hF
     ·assumption
     ·rw[hF]at hc; cases hc
    rw[hC]at hc; cases hc
   rcases (Hu hpo).2 with h|⟨h,h'⟩|⟨_,h⟩|⟨h,h'⟩|⟨_,h⟩
   ·exact .inl (Zo h)
   ·refine .inr (.inl ⟨h,fun hst => ?_,fun hx=>glt hx (by simp[cn,Mv h])⟩)
    have:=hna hst
    rcases h' with h'|h' <;> simp[noApp,rdA,h,h']at this
   ·rw[Mv h]at hc; cases hc
   ·exact .inr (.inr (.inr (.inl ⟨VW h' (by simp) (by simp),h⟩)))
   ·rw[Zr h]at hc; cases hc
  simp only[List.cons_append,OJ]
  rw[one_eff Pc (Zn (tB hpy).1) hc he hput gne gx fun hx=>g.top x (by simp) hx]
  refine VV hE gy fun v hp' hh => ?_
  exact pull hE hc he hput hnat post pre _ h (g.sub (List.sublist_cons_self _ _)) (fun z hz=>hp z (by simp[hz])) (ha.trans (Mz (.inr hpy) rfl hh))
theorem find (T:AU P tt) (hE:EOk P E) {x:AW} (post:List AW):∀(pre:List AW) (w:World) (c:jI) (st:St) (a:Act),S9 w c st a→Good tt base ops.toList (pre++x::post) st.hp→(∀y∈pre,Of tt E (S.map (·.1)) ops.toList y.2.1 x.2.1=true) →
  OJ tt E S base ops.toList (pre++x::post) st k=some r→∃xH k',Jq S E ops.toList tt base x.2.1 st xH∧one tt E S base ops.toList x.2.1 x.2.2 xH k'=some r
 | [],_,_,st,_,_,_,_,hk=>⟨st,_,⟨fun _ _=>rfl,fun _ _ _ _ _=>rfl⟩,hk⟩
 | y::pre,w,c,st,a,iG,g,hp,hk=>by
  simp only[List.cons_append,OJ]at hk
  obtain ⟨w1,c1,VT,a1,v,s1,hk1,hf,hh,kp⟩:=one_reach T hE hk iG (fun ha=>g.slot y (by simp) ha)
  obtain ⟨xH,k',h1,h2⟩:=find T hE post pre w1 c1 VT a1 s1 (Good.step (pre := []) g kp) (fun z hz=>hp z (by simp[hz])) hk1
  exact ⟨xH,k',(Mz (.inr (hp y (by simp))) hf hh).trans h1,h2⟩
theorem pullW (hE:EOk P E) {x:AW} (post:List AW):∀(pre:List AW) (st:St) (h:aM),Good tt base ops.toList (pre++x::post) h→(∀y∈pre,Of tt E (S.map (·.1)) ops.toList y.2.1 x.2.1=true∧(calm (fy tt y.2.1.op)=true∨(S.map (·.1)=some true∧farW ops.toList y.2.1 x.2.1=true))) →
  OJ tt E S base ops.toList (pre++x::post) st k=some r→one tt E S base ops.toList x.2.1 x.2.2 st (fun VT=>OJ tt E S base ops.toList (pre++post) VT k)=some r
 | [],_,_,_,_,hk=>hk
 | y::pre,st,h,g,hp,hk=>by
  obtain ⟨hpy,FP⟩:=hp y (by simp)
  simp only[List.cons_append,OJ]at hk ⊢
  rcases FP with FP|⟨hSo,hW⟩
  rotate_left
  ·have hvy:r7 ops.toList y.2.1=true∨wA ops.toList y.2.1=true:=(Ro hW).imp (·.1) (·.1)
   have hvx:r7 ops.toList x.2.1=true∨wA ops.toList x.2.1=true:=((Ro hW).imp (·.2) (·.2)).symm
   obtain ⟨fr,hp0⟩:=st
   obtain ⟨sy,i,ob,iy,hk1,ny⟩:=store_one hvy hk
   have ih:=pullW hE post pre _ h (g.sub (List.sublist_cons_self _ _)) (fun z hz=>hp z (by simp[hz])) hk1
   obtain ⟨sx,j,ob',ix,Rj,nx⟩:=store_one hvx ih
   have jA:i≠j:=by
    match S,hSo,sy,sx with
    | some (true,A),_,sy,sx =>
     simp only[SZ,(Lf (tt:=tt) hW).1,Bool.and_eq_true,Bool.or_eq_true,Bool.not_eq_true',List.all_eq_true]at sy
     simp only[SZ,(Lf (tt:=tt) hW).2,Bool.and_eq_true,Bool.or_eq_true,Bool.not_eq_true',List.all_eq_true]at sx
     rintro rfl
     rcases Ro hW with ⟨g1,g2⟩|⟨g1,g2⟩
     ·have a1:=sy.1.resolve_left (by simp[g1]) i iy
      have a2:=sx.2.resolve_left (by simp[g2]) i ix
      rw[a1]at a2; cases a2
     ·have a1:=sy.2.resolve_left (by simp[g1]) i iy
      have a2:=sx.1.resolve_left (by simp[g2]) i ix
      rw[a2]at a1; cases a1
   rw[nx hp0 _ _ (cG _ jA).symm,ny (hp0.set j ob') _ _ (cG _ (Ne.symm jA)),←List.set_comm _ _ jA]
   exact Rj
  obtain ⟨e,h1,h2,h3,h4⟩:=one_nat FP hk
  have gx:cn tt x.2.1=true→base≤x.2.2:=fun hx=>(g.slot x (by simp) hx).1
  have gy:cn tt y.2.1=true→base≤y.2.2:=fun hx=>(g.slot y (by simp) hx).1
  have gne:cn tt y.2.1=true→cn tt x.2.1=true→y.2.2≠x.2.2:=fun hy hx=>by
   have:=g.apart
   rw[List.cons_append,List.pairwise_cons]at this
   exact Nat.ne_of_lt (this.1 x (by simp) hy hx)
  have Pc:Sh (dS tt E y.2.1.op) (dS tt E x.2.1.op)=true∨(uh x.2.1.op=true∧S.map (·.1)≠some true∧(cn tt y.2.1=true→x.2.2<y.2.2))∨(fy tt y.2.1.op = .R∧uh x.2.1.op=true)∨(fy tt y.2.1.op = .R∧mq E x.2.1.op=true)∨(fy tt y.2.1.op = .R∧dS tt E x.2.1.op = .F)∨(fy tt y.2.1.op = .A∧S.map (·.1)=some true∧dS tt E x.2.1.op = .F∧mq E x.2.1.op=false∧T2 tt ops.toList base x.2.1≤y.2.2)∨(fy tt y.2.1.op = .R∧fy tt x.2.1.op = .W):=by
   rcases (tB hpy).2 with ⟨hpo,_⟩|⟨_,⟨_,hR,hF⟩|⟨hF,_⟩|hW|⟨hF,_⟩⟩|⟨_,_,hR,hW⟩
   rotate_left
   ·exact .inr (.inr (.inr (.inr (.inl ⟨VW hR (by simp) (by simp),hF⟩))))
   ·have hC:fy tt y.2.1.op = .C:=by
     unfold dS at hF
     split at hF
     ·assumption
     ·rw[hF]at FP; cases FP
    rw[hC]at FP; cases FP
   ·rw[(Lf (tt:=tt) hW).1]at FP; cases FP
   ·have hC:fy tt y.2.1.op = .C:=by
     unfold dS at hF
     split at hF
     ·assumption
     ·rw[hF]at FP; cases FP
    rw[hC]at FP; cases FP
   ·exact .inr (.inr (.inr (.inr (.inr (.inr ⟨VW hR (by simp) (by simp),Zq hW⟩)))))
   rcases (Hu hpo).2 with h|⟨h,_⟩|⟨h,h'⟩|⟨h,_⟩|⟨h,h'⟩
   ·exact .inl h
   ·rw[Mv h]at FP; cases FP
   ·exact .inr (.inr (.inl ⟨VW h (by simp) (by simp),h'⟩))
   ·rw[Zr h]at FP; cases FP
   ·exact .inr (.inr (.inr (.inl ⟨VW h (by simp) (by simp),h'⟩)))
  have ih:=pullW hE post pre (eff st e) h (g.sub (List.sublist_cons_self _ _)) (fun z hz=>hp z (by simp[hz])) h3
  rw[one_eff Pc (tB hpy).1 FP h1 h2 gne gy fun hy=>g.top y (by simp) hy]at ih
  rw[←ih]
  refine VV hE gx fun v hp' hh => ?_
  exact h4 _ (Mz (.inl hpy) rfl hh) _
theorem bubble (T:AU P tt) (hE:EOk P E) {x:AW} {pre post:List AW} {st:St} {a:Act} (iG:S9 w c st a) (g:Good tt base ops.toList (pre++x::post) st.hp) (hp:∀y∈pre,Of tt E (S.map (·.1)) ops.toList y.2.1 x.2.1=true)
  (hk:OJ tt E S base ops.toList (pre++x::post) st k=some r):one tt E S base ops.toList x.2.1 x.2.2 st (fun VT=>OJ tt E S base ops.toList (pre++post) VT k)=some r:=by
 by_cases hc:calm (fy tt x.2.1.op)=true
 ·obtain ⟨xH,k',h1,h2⟩:=find T hE post pre w c st a iG g hp hk
  obtain ⟨e,e1,e2,_,e4⟩:=one_nat hc h2
  rw[e4 st h1.symm,←pull hE hc e1 e2 e4 post pre st _ g hp h1.symm]
  exact hk
 ·refine pullW hE post pre st _ g (fun y hy=>⟨hp y hy,?_⟩) hk
  have h0:=(tB (hp y hy)).2
  by_cases hfw:S.map (·.1)=some true∧farW ops.toList y.2.1 x.2.1=true
  ·exact .inr hfw
  refine .inl ?_
  have hy:dS tt E y.2.1.op = .P∨dS tt E y.2.1.op = .R∨dS tt E y.2.1.op = .A:=by
   have hx:¬calm (dS tt E x.2.1.op)=true:=by
    unfold dS
    split
    ·cases o4 E x.2.1.op <;> simp[calm]
    ·exact hc
   rcases h0 with ⟨h0,_⟩|⟨hSo,⟨_,h0,_⟩|⟨_,_,h0⟩|h0|⟨_,_,h0⟩⟩|⟨_,_,h0,_⟩
   rotate_left
   ·exact .inr (.inl h0)
   ·exact (hc (by rw[h0]; rfl)).elim
   ·exact (hfw ⟨hSo,h0⟩).elim
   ·exact (hx (by rw[h0]; rfl)).elim
   ·exact .inr (.inl h0)
   have h1:=(Hu h0).2
   rcases h1 with h1|⟨_,h1⟩|⟨h1,_⟩|⟨_,h1⟩|⟨h1,_⟩
   ·revert h1 hx
    cases dS tt E x.2.1.op <;> cases dS tt E y.2.1.op <;> simp[Sh,calm]
   ·exact (hx (by rcases h1 with h|h <;> rw[h] <;> rfl)).elim
   ·exact .inr (.inl h1)
   ·exact (hx (by rw[h1]; rfl)).elim
   ·exact .inr (.inl h1)
  have jA:fy tt y.2.1.op ≠ .C:=fun e=>by
   unfold dS at hy
   rw[e]at hy
   cases hp2:o4 E y.2.1.op <;> simp[hp2]at hy
  rw[um jA]at hy
  rcases hy with h|h|h <;> rw[h] <;> rfl
end
theorem Al:∀(l:List Oper) (i id:Nat) (x:AW),x∈number tt l i id→i≤x.1∧x.1<i+l.length∧l[x.1 - i]? = some x.2.1∧id≤x.2.2∧(cn tt x.2.1=true→x.2.2<id+(l.filter (cn tt)).length)
 | [],_,_,_,h=>by simp[number]at h
 | o::l,i,id,x,h=>by
  simp only[number,List.mem_cons]at h
  rcases h with rfl|h
  ·refine ⟨Nat.le_refl _,by simp,by simp,Nat.le_refl _,fun ha => ?_⟩
   simp only at ha
   simp only[List.filter_cons_of_pos ha,List.length_cons]
   omega
  ·obtain ⟨h1,h2,h3,h4,h5⟩:=Al l _ _ x h
   have e:x.1 - i=(x.1 - (i+1))+1:=by omega
   refine ⟨by omega,by simp; omega,by rw[e]; simpa using h3,?_,fun ha => ?_⟩
   ·split at h4 <;> omega
   ·have:=h5 ha
    by_cases ho:cn tt o=true
    ·rw[if_pos ho]at this
     rw[List.filter_cons_of_pos ho,List.length_cons]; omega
    ·rw[if_neg ho]at this
     rw[List.filter_cons_of_neg ho]; omega
theorem MA:∀(l:List Oper) (i id:Nat),(number tt l i id).Pairwise fun z z'=>z.1<z'.1∧(cn tt z.2.1=true→cn tt z'.2.1=true→z.2.2<z'.2.2)
 | [],_,_=>by simp[number]
 | o::l,i,id=>by
  simp only[number,List.pairwise_cons]
  refine ⟨fun z hz => ?_,MA l _ _⟩
  obtain ⟨h1,_,_,h4,_⟩:=Al l _ _ z hz
  refine ⟨by omega,fun ha _ => ?_⟩
  rw[if_pos ha]at h4
  omega
theorem cap_le {f p:Oper→Bool} {o:Oper} {l:List Oper} (h:p o=false):∀pre:List Oper,(((pre++o::l).takeWhile p).filter f).length≤(pre.filter f).length
 | []=>by simp[h]
 | z::pre=>by
  rw[List.cons_append,List.takeWhile_cons]
  cases p z with
  | false=>simp
  | true =>
   have:=cap_le h pre (f:=f) (p:=p) (o:=o) (l:=l)
   simp only[if_true,List.filter_cons]
   cases f z
   ·simpa using this
   ·simpa using this
theorem WS {all:List Oper} {base:Nat}:∀(l pre:List Oper) (i id:Nat),all=pre++l→id=base+(pre.filter (cn tt)).length→(number tt l i id).Pairwise fun z z'=>cn tt z'.2.1=true→T2 tt all base z.2.1≤z'.2.2
 | [],_,_,_,_,_=>by simp[number]
 | o::l,pre,i,id,ha,hi=>by
  simp only[number,List.pairwise_cons]
  refine ⟨fun z hz _ => ?_,WS l (pre ++ [o]) _ _ (by simp[ha]) ?_⟩
  ·have h4:=(Al l _ _ z hz).2.2.2.1
   have:=cap_le (f:=cn tt) (p:=fun z=>z.dst != o.dst) (o:=o) (l:=l) (by simp) pre
   unfold T2
   rw[ha]
   split at h4 <;> omega
  ·rw[List.filter_append,List.length_append,hi]
   by_cases ho:cn tt o=true
   ·rw[if_pos ho]; simp[ho]; omega
   ·rw[if_neg ho]; simp[ho]
theorem Zs:∀(l:List Oper) (i id j:Nat),i≤j→j<i+l.length→∃x∈number tt l i id,x.1=j
 | [],i,_,j,h1,h2=>by simp at h2; omega
 | o::l,i,id,j,h1,h2=>by
  by_cases e:i=j
  ·exact ⟨(i,o,id),by simp[number],e⟩
  ·obtain ⟨x,hx,ex⟩:=Zs l (i+1) (if cn tt o then id+1 else id) j (by omega) (by simp at h2; omega)
   exact ⟨x,by simp[number,hx],ex⟩
structure Left (ops:Array Oper) (b:List (List Nat)) (listed:Array Bool) (rem:List AW):Prop where
 size:listed.size=ops.size
 sorted:rem.Pairwise fun z z'=>z.1<z'.1
 op:∀x∈rem,ops[x.1]? = some x.2.1
 un:∀x∈rem,listed.getD x.1 true=false
 all:∀i,listed.getD i true=false→∃x∈rem,x.1=i
 closed:∀m,listed.getD m false=true→∀i∈b.getD m [],listed.getD i false=true
theorem Zt {listed:Array Bool} {i:Nat} (h:i<listed.size):listed.getD i false=true↔¬listed.getD i true=false:=by
 simp[h]
theorem any_sound (T:AU P tt) {E:Env R} (hE:EOk P E) {S:Option (Bool×List Nat)} {base:Nat} {ops:Array Oper} {b:List (List Nat)} {k:St→Option R} {r:R} {Q:Exit→Act→World→Prop}
  (hpair:∀i j x y,i<j→ops[i]? = some x→ops[j]? = some y→i∈b.getD j []∨Of tt E (S.map (·.1)) ops.toList x y=true)
  (hback:∀(j:Nat) (y:Oper),ops[j]? = some y→∀e∈y.after,Region.binds .any e=true→e.on<j)
  (hclo:∀(j:Nat) (y:Oper),ops[j]? = some y→∀i∈b.getD j [],∃e∈y.after,Region.binds .any e=true∧(e.on=i∨i∈b.getD e.on [])) :
  ∀(fuel:Nat) (listed:Array Bool) (rem:List AW) (w:World) (c:jI) (st:St) (a:Act),rem.length≤fuel→Left ops b listed rem→Good tt base ops.toList rem st.hp→S9 w c st a→OJ tt E S base ops.toList rem st k=some r →
   Goes w c st a k r (Q .normal)→wpAny P .any ops Q fuel listed a w:=by
 intro fuel
 -- if nothing is ready, nothing is left
 have hnone:∀listed rem,Left ops b listed rem→Region.ready .any ops listed = []→rem = []:=by
  intro listed rem lf hr
  cases rem with
  | nil=>rfl
  | cons x rest =>
   have:x.1∈Region.ready .any ops listed:=by
    rw[mem_ready]
    refine ⟨lf.un x (by simp),x.2.1,lf.op x (by simp),fun e he hb => ?_⟩
    have je:=hback x.1 x.2.1 (lf.op x (by simp)) e he hb
    have hx:x.1<ops.size:=(Array.getElem?_eq_some_iff.1 (lf.op x (by simp))).1
    rw[Zt (by rw[lf.size]; omega)]
    intro hun
    obtain ⟨y,hy,ey⟩:=lf.all _ hun
    rcases List.mem_cons.1 hy with rfl|hy
    ·omega
    ·have:=(List.pairwise_cons.1 lf.sorted).1 y hy
     omega
   rw[hr]at this
   cases this
 induction fuel with
 | zero =>
  intro listed rem w c st a hl lf g iG hk go
  obtain rfl:rem = []:=List.eq_nil_of_length_eq_zero (by omega)
  refine ⟨?_,go a w st c iG (.refl _ _ _) rfl hk⟩
  cases hr:Region.ready .any ops listed with
  | nil=>rfl
  | cons i l =>
   have hi:i∈Region.ready .any ops listed:=by rw[hr]; simp
   obtain ⟨x,hx,_⟩:=lf.all i (mem_ready.1 hi).1
   cases hx
 | succ fuel ih =>
  intro listed rem w c st a hl lf g iG hk go
  refine ⟨fun hr => ?_,fun i hi => ?_⟩
  ·obtain rfl:=hnone _ _ lf hr
   exact go a w st c iG (.refl _ _ _) rfl hk
  ·obtain ⟨hun,o,ho,hdone⟩:=mem_ready.1 hi
   obtain ⟨x,hx,rfl⟩:=lf.all i hun
   obtain ⟨pre,post,rfl⟩:=List.append_of_mem hx
   have hox:=lf.op x (by simp)
   rw[hox]at ho
   cases ho
   have hsort:=lf.sorted
   rw[List.pairwise_append,List.pairwise_cons]at hsort
   have hbx:∀j∈b.getD x.1 [],listed.getD j false=true:=fun j hj=>by
    obtain ⟨e,he,hb,hor⟩:=hclo x.1 x.2.1 hox j hj
    have hel:=hdone e he hb
    rcases hor with rfl|hj
    ·exact hel
    ·exact lf.closed _ hel j hj
   have hpr:∀y∈pre,Of tt E (S.map (·.1)) ops.toList y.2.1 x.2.1=true:=fun y hy=>by
    rcases hpair y.1 x.1 y.2.1 x.2.1 (hsort.2.2 y hy x (by simp)) (lf.op y (by simp[hy])) hox with h1|h1
    ·have h2:=hbx _ h1
     have h3:=lf.un y (by simp[hy])
     have hy':y.1<ops.size:=(Array.getElem?_eq_some_iff.1 (lf.op y (by simp[hy]))).1
     rw[Zt (by rw[lf.size]; exact hy')]at h2
     exact (h2 h3).elim
    ·exact h1
   have Up:=bubble T hE iG g hpr hk
   have hsize:x.1<listed.size:=by rw[lf.size]; exact (Array.getElem?_eq_some_iff.1 hox).1
   have lf':Left ops b (listed.setIfInBounds x.1 true) (pre++post):=by
    have hs:List.Sublist (pre++post) (pre++x::post):=List.Sublist.append (List.Sublist.refl _) (List.sublist_cons_self _ _)
    have jA:∀y∈pre++post,x.1≠y.1:=fun y hy=>by
     rcases List.mem_append.1 hy with hy|hy
     ·have:=hsort.2.2 y hy x (by simp); omega
     ·have:=hsort.2.1.1 y hy; omega
    refine ⟨by simp[lf.size],lf.sorted.sublist hs,fun y hy=>lf.op y (hs.subset hy),fun y hy => ?_,fun j hj => ?_,fun m hm j hj => ?_⟩
    ·rw[getD_set_ne true (jA y hy)]; exact lf.un y (hs.subset hy)
    ·by_cases e:x.1=j
     ·subst e; simp[hsize]at hj
     ·rw[getD_set_ne true e]at hj
      obtain ⟨y,hy,ey⟩:=lf.all j hj
      refine ⟨y,?_,ey⟩
      rcases List.mem_append.1 hy with h1|h1
      ·exact List.mem_append_left _ h1
      ·rcases List.mem_cons.1 h1 with rfl|h1
       ·exact (e ey).elim
       ·exact List.mem_append_right _ h1
    ·refine getD_set_true ?_
     by_cases e:x.1=m
     ·subst e; exact hbx j hj
     ·rw[getD_set_ne false e]at hm; exact lf.closed m hm j hj
   have hl':(pre++post).length≤fuel:=by simp at hl ⊢; omega
   unfold wpOp
   simp only[hox]
   rcases Mw iG Up with ⟨hw,Up⟩|⟨hw,Up⟩
   ·rw[if_pos hw]
    have Up:EX tt E (drS tt S base x.2.1) x.2.2 x.2.1 st (fun VT=>OJ tt E S base ops.toList (pre++post) VT k)=some r:=by
     cases hS:SZ tt E base S ops.toList x.2.1 (ev st.fr) st.hp with
     | true=>rw[hS]at Up; exact Up
     | false=>rw[hS]at Up; cases Up
    refine .inl (Pn T hE Up iG (fun ha=>(g.slot x (by simp) ha).2) fun d w' xH c' v sim' xt kp _ _ ui => ?_)
    exact ih _ _ w' c' xH _ hl' lf' (g.step kp) sim' ui fun a2 w2 I0 c2 s2 x2 d2 k2=>go a2 w2 I0 c2 s2 (xt.trans x2) (d2.trans (put_defers _ _ _)) k2
   ·rw[if_neg (by simp[hw])]
    exact ih _ _ w c ⟨mW st.fr x.2.1.dst (.tuple []),st.hp⟩ (a.put x.2.1.dst undef) hl' lf' (g.step (.refl _ _ _)) ⟨iG.wf,GX iG.fr _ VS⟩ Up fun a2 w2 I0 c2 s2 x2 d2 k2=>go a2 w2 I0 c2 s2 x2 (d2.trans (put_defers _ _ _)) k2
theorem Rp (n:Nat):Ext w h c { w with drawn:=n } h c where
 os:=rfl
 tape:=rfl
 output:=rfl
 size:=Nat.le_refl _
 used:=fun _ hi=>hi
 same:=fun i hi hd=>⟨Ld (Rl hi.2 hd) (fun _ _ _ => .inr trivial),rfl,rfl⟩
 cell:=fun _ _ _ _=>rfl
 block:=fun _ _ _=>rfl
 Bp:=fun _ _ _ ho=>ho
 ext:=rfl
 arr:=fun b arr e fz hb=>⟨arr,fz,hb,rfl⟩
theorem drawn_wf (wf:WF w h c) (n:Nat):WF { w with drawn:=n } h c where
 lay:=wf.vP (Rp n)
 C8:=wf.C8
 rG:=wf.rG
 obj:=fun i hi=>by
  by_cases hl:(h.at i).live
  ·exact (wf.obj i hi).uY (Rp n) (fun _ _=>rfl) rfl rfl
  ·have h0:h.at i = .free∨h.at i = .dead:=by revert hl; cases h.at i <;> simp[cm.live]
   rcases h0 with h0|h0 <;> rw[h0] <;> trivial
 inj:=wf.inj
theorem WT (M:List Nat) (i:Nat):∀(es:List Nat) (m:Nat),(es.foldl (fun m e=>m ||| (Nat.pow 2 e ||| M.getD e 0)) m).testBit i=true→m.testBit i=true∨∃e∈es,e=i∨(M.getD e 0).testBit i=true
 | [],m,h => .inl h
 | e::es,m,h=>by
  rcases WT M i es _ h with h|⟨x,hx,h⟩
  ·rw[Nat.testBit_or,Nat.testBit_or,Bool.or_eq_true,Bool.or_eq_true]at h
   rcases h with h|h|h
   ·exact .inl h
   ·have h':(2 ^ e).testBit i=true:=h
    rw[Nat.testBit_two_pow]at h'
    exact .inr ⟨e,by simp, .inl (of_decide_eq_true h')⟩
   ·exact .inr ⟨e,by simp, .inr h⟩
  ·exact .inr ⟨x,by simp[hx],h⟩
theorem Pp {n j i:Nat} {M:List Nat} (hj:j<n):i∈(beforeL n M).getD j []↔i<n∧(M.getD j 0).testBit i=true:=by
 unfold beforeL
 rw[List.getD_eq_getElem?_getD,List.getElem?_map,List.getElem?_range hj]
 simp
theorem draw_sound (T:AU P tt) (hm:P.follows .mixedOrders=true) {E:Env R} (hE:EOk P E) {id:Nat} {ops:Array Oper} {k:St→Option R} {r:R} {Q:Exit→Act→World→Prop} {st:St} {a:Act}
  (hk:Ri tt E ops.toList true st k=some r) (iG:S9 w c st a) (go:Goes w c st a k r (Q .normal)):(Code.region id ops true).wp P Q a w:=by
 obtain ⟨S,hd,hk⟩:∃S:Option (Bool×List Nat),Ml tt E (S.map (·.1)) ops.toList=true∧OJ tt E S st.hp.length ops.toList (number tt ops.toList 0 st.hp.length) ⟨st.fr,st.hp++List.replicate (ops.toList.filter (cn tt)).length .free⟩ k=some r:=by
  simp only[Ri,if_true]at hk
  split at hk
  ·rename_i hd
   rw[opsK_eq _ 0]at hk
   exact ⟨none,drawN_ok hd,hk⟩
  ·split at hk
   ·rename_i hd
    rw[Ym _ 0]at hk
    exact ⟨some (true,avoidM tt ops.toList st.fr),hd,hk⟩
   ·split at hk
    ·rename_i hd
     rw[Ym _ 0]at hk
     exact ⟨some (false,YM tt _ ops.toList st.fr),hd,hk⟩
    ·cases hk
 refine wp_region_any hm ?_
 have pP:∀j,j<ops.size→((List.range j).all (fun i=>((T1 ops.toList).getD j 0).testBit i||Of tt E (S.map (·.1)) ops.toList (ops.toList.getD i default) (ops.toList.getD j default))=true ∧
   (Mk (ops.toList.getD j default)).all (fun i=>Nat.blt i j)=true∧(T1 ops.toList).getD j 0=Ye (T1 ops.toList) (Mk (ops.toList.getD j default))):=by
  intro j hj
  unfold Ml at hd
  simp only at hd
  rw[List.all_eq_true]at hd
  have:=hd j (by simpa using hj)
  simp only[Bool.and_eq_true]at this
  exact ⟨this.1.1,this.1.2,Nat.eq_of_beq_eq_true this.2⟩
 have HF:∀(j:Nat) (y:Oper),ops[j]? = some y→ops.toList.getD j default=y∧j<ops.size:=fun j y hy=>by
  refine ⟨?_,(Array.getElem?_eq_some_iff.1 hy).1⟩
  rw[List.getD,Array.getElem?_toList,hy]; rfl
 have hbind:∀(y:Oper) (n:Nat),n∈Mk y↔∃e∈y.after,Region.binds .any e=true∧e.on=n:=by
  intro y n
  simp[Mk,List.mem_map,List.mem_filter,and_assoc]
 have sim':S9 { w with drawn:=w.drawn+1 } c ⟨st.fr,st.hp++List.replicate (ops.toList.filter (cn tt)).length .free⟩ a :=
  ⟨drawn_wf (Po iG.wf _) _,(iG.fr.mono (xm _)).mono (Rp _)⟩
 refine any_sound T hE (S:=S) (base:=st.hp.length) (b:=beforeL ops.size (T1 ops.toList)) (fun i j x y AT hx hy => ?_) (fun j y hy e he hb => ?_) (fun j y hy i hi => ?_) ops.size _ (number tt ops.toList 0 st.hp.length) _ c _ a ?_ ?_ ?_ sim' hk ?_
 ·obtain ⟨h1,h2⟩:=HF i x hx
  obtain ⟨h3,h4⟩:=HF j y hy
  have:=List.all_eq_true.1 (pP j h4).1 i (by simpa using AT)
  rw[h1,h3,Bool.or_eq_true]at this
  rcases this with h|h
  ·exact .inl ((Pp h4).2 ⟨h2,h⟩)
  ·exact .inr h
 ·obtain ⟨h3,h4⟩:=HF j y hy
  have:=(pP j h4).2.1
  rw[h3,List.all_eq_true]at this
  simpa using this e.on ((hbind y _).2 ⟨e,he,hb,rfl⟩)
 ·obtain ⟨h3,h4⟩:=HF j y hy
  have heq:=(pP j h4).2.2
  have je:=(pP j h4).2.1
  rw[h3]at heq je
  obtain ⟨hin,hbit⟩:=(Pp h4).1 hi
  rw[heq]at hbit
  unfold Ye at hbit
  rcases WT _ i _ _ hbit with h|⟨n,hn,h⟩
  ·simp at h
  ·obtain ⟨e,he,hb,rfl⟩:=(hbind y n).1 hn
   refine ⟨e,he,hb,h.imp (fun h=>h) fun h => ?_⟩
   have:=List.all_eq_true.1 je e.on hn
   have hon:e.on<j:=by simpa using this
   exact (Pp (Nat.lt_trans hon h4)).2 ⟨hin,h⟩
 ·have:∀(l:List Oper) (i id:Nat),(number tt l i id).length=l.length:=by
   intro l
   induction l with
   | nil=>intros; rfl
   | cons o l ih=>intros; simp[number,ih]
  rw[this]; simp
 ·refine ⟨by simp,(MA _ _ _).imp fun h=>h.1,fun x hx => ?_,fun x hx => ?_,fun i hi => ?_,fun m hm => ?_⟩
  ·obtain ⟨_,_,h3,_⟩:=Al _ _ _ x hx
   simpa using h3
  ·obtain ⟨_,h2,_⟩:=Al _ _ _ x hx
   simp at h2
   simp[h2]
  ·have:i<ops.size:=by
    rcases Nat.lt_or_ge i ops.size with h|h
    ·exact h
    ·simp[Nat.not_lt.2 h]at hi
   exact Zs _ 0 _ i (Nat.zero_le _) (by simpa using this)
  ·rcases Nat.lt_or_ge m ops.size with h|h
   ·simp[h]at hm
   ·simp[Nat.not_lt.2 h]at hm
 ·refine ⟨fun z hz ha=>(Al _ _ _ z hz).2.2.2.2 ha,WS ops.toList [] 0 _ rfl (by simp),fun z hz ha => ?_,(MA _ _ _).imp fun h=>h.2⟩
  obtain ⟨_,_,_,h4,h5⟩:=Al _ _ _ z hz
  have h5:=h5 ha
  refine ⟨h4,by simp; omega,?_⟩
  rw[jB h4]
  have:z.2.2 - st.hp.length<(ops.toList.filter (cn tt)).length:=by omega
  simp[aM.at,List.getD,List.getElem?_replicate,this]
 ·exact fun a2 w2 I0 c2 s2 x2 d2 k2=>go a2 w2 I0 c2 s2 (((xm _).trans (Rp _)).trans x2) d2 k2
end
section
variable {P:Program} {tt:dd} {w w':World} {h h':aM} {c c':jI} {R:Type}
theorem WU (h:aM):∀(n:Nat) (l rest seen:List Nat),(seen++l).Nodup→l.length≤n→∃t,reach h n (l++rest) seen=seen++l++t
 | n, [],rest,seen,_,_=>by
  have key:∀(n:Nat) (todo seen:List Nat),∃t,reach h n todo seen=seen++t:=by
   intro n
   induction n with
   | zero=>exact fun _ _=>⟨[],by simp[reach]⟩
   | succ n ih =>
    intro todo seen
    cases todo with
    | nil=>exact ⟨[],by simp[reach]⟩
    | cons i todo =>
     simp only[reach]
     split
     ·exact ih _ _
     ·obtain ⟨t,ht⟩:=ih (todo++(h.at i).ids) (seen ++ [i])
      exact ⟨i::t,by rw[ht]; simp⟩
  obtain ⟨t,ht⟩:=key n rest seen
  exact ⟨t,by simpa using ht⟩
 | 0,i::l,_,_,_,hl=>by simp at hl
 | n+1,i::l,rest,seen,hn,hl=>by
  have hi:i∉seen:=fun hm=>by
   rw[List.nodup_append]at hn
   exact hn.2.2 i hm i (by simp) rfl
  obtain ⟨t,ht⟩:=WU h n l (rest++(h.at i).ids) (seen ++ [i]) (by simpa using hn) (by simpa using hl)
  refine ⟨t,?_⟩
  simp only[List.cons_append,reach,List.contains_iff_mem,hi,if_false,List.append_assoc]at ht ⊢
  simpa using ht
theorem pick_ext' {w0:World} {h0:aM} {c0:jI} (x:Ext w0 h0 c0 w h c) {ord:List Nat} (hf:∀i,i<h0.length→ord[i]? = some i∨∃j,h.length≤j∧ord[i]? = some j):Ext w0 h0 c0 w (h.pick ord) (c.pick ord c.ext) where
 os:=x.os
 tape:=x.tape
 output:=x.output
 size:=x.size
 used:=fun i hi=>by
  rcases hf i hi.1 with e|⟨j,hj,e⟩
  ·refine ⟨by simpa [aM.pick]using (List.getElem?_eq_some_iff.1 e).1,?_⟩
   rw[vR,e]
   simp only[ne_eq,HK]
   exact (x.used i hi).2
  ·refine ⟨by simpa [aM.pick]using (List.getElem?_eq_some_iff.1 e).1,?_⟩
   rw[vR,e]
   simp only[ne_eq,HK,at_out hj]
   intro h; cases h
 same:=fun i hi hd=>by
  rcases hf i hi.1 with e|⟨j,hj,e⟩
  rotate_left
  ·rw[vR,e]at hd
   simp only[at_out hj]at hd
   exact (hd rfl).elim
  rw[vR,e]at hd ⊢
  simp only[ne_eq,Uj]at hd
  obtain ⟨s1,s2,s3⟩:=x.same i hi hd
  exact ⟨ren_sim_r.2 s1,by simp[jI.pick,e,s2],by simp[jI.pick,List.getD,e,s3]⟩
 cell:=x.cell
 block:=x.block
 Bp:=fun b y hb ho=>by
  obtain ⟨i,_,f,g1,g2,g3⟩:=Lc ho
  exact x.Bp b y hb ⟨i,f,g1,g2,g3⟩
 ext:=x.ext
 arr:=x.arr
theorem pick_ext {w0:World} {h0:aM} {c0:jI} (x:Ext w0 h0 c0 w h c) {ord:List Nat} (hf:∀i,i<h0.length→ord[i]? = some i):Ext w0 h0 c0 w (h.pick ord) (c.pick ord c.ext):=pick_ext' x fun i hi => .inl (hf i hi)
theorem Uq (wf:WF w h c) {ord:List Nat} (KZ:ord.Nodup):WF w (h.pick ord) (c.pick ord c.ext) :=
 pick_wf wf KZ (fun _ _ hf=>hf.2) wf.rG (fun b x ⟨i,_,f,g1,g2,g3⟩=>wf.C8 b x ⟨i,f,g1,g2,g3⟩)
theorem Sk {ord:List Nat} {cs:List V} {ds:List Value} (r:cC w h c cs ds):cC w (h.pick ord) (c.pick ord c.ext) (V.DZ (Dl ord) cs) ds :=
 r.rU (Zb fun _ _ hf=>hf.2)
theorem front_get {m:Nat} {t:List Nat} {i:Nat} (hi:i<m):(List.range m++t)[i]? = some i:=by
 rw[List.getElem?_append_left (by simpa using hi),List.getElem?_range hi]
theorem WV (h:aM) {m n:Nat} (hmn:m≤n) (rest:List Nat):(reach h n (List.range m++rest) []).Nodup∧∀i,i<m→(reach h n (List.range m++rest) [])[i]? = some i:=by
 refine ⟨Jn h _ _ _ (by simp),fun i hi => ?_⟩
 obtain ⟨t,ht⟩:=WU h n (List.range m) rest [] (by simpa using List.nodup_range) (by simpa using hmn)
 rw[ht]
 simpa using front_get (t:=t) hi
theorem mem_mailRows {m i:Nat} (hi:i∈wB h m):i<m:=by
 unfold wB at hi
 rw[List.mem_filter]at hi
 simpa using hi.1
theorem rebirth_spec {m:Nat} {ord:List Nat} (hn:ord.Nodup) (hf:∀i,i<m→ord[i]? = some i):(T3 h m ord).Nodup∧∀i,i<m→(T3 h m ord)[i]? = some i∨∃j,h.length≤j∧(T3 h m ord)[i]? = some j:=by
 unfold T3
 cases hc:((wB h m).isEmpty || !(ord.all fun i=>Nat.blt i h.length))with
 | true=>exact ⟨hn,fun i hi => .inl (hf i hi)⟩
 | false =>
  simp only[Bool.or_eq_false_iff,Bool.not_eq_false',List.all_eq_true]at hc
  have je:∀i∈ord,i<h.length:=fun i hi=>by simpa using hc.2 i hi
  rw[cond_false]
  refine ⟨?_,fun i hi => ?_⟩
  ·rw[List.nodup_append]
   refine ⟨?_,?_,?_⟩
   ·unfold List.Nodup
    rw[List.pairwise_map]
    refine List.Pairwise.imp_of_mem (fun {a b} ha hb hab => ?_) hn
    have h1:=je a ha
    have h2:=je b hb
    cases h3:(wB h m).contains a <;> cases h4:(wB h m).contains b <;> simp only[cond_true,cond_false,ne_eq] <;> omega
   ·unfold wB
    exact List.Nodup.sublist List.filter_sublist List.nodup_range
   ·intro a ha b hb hab
    subst hab
    rw[List.mem_map]at ha
    obtain ⟨z,hz,e⟩:=ha
    cases h3:(wB h m).contains z with
    | true =>
     rw[h3,cond_true]at e
     have h4:=mem_mailRows hb
     have h5:=(List.getElem?_eq_some_iff.1 (hf a h4))
     have h6:=je a (List.mem_of_getElem? (hf a h4))
     omega
    | false =>
     rw[h3,cond_false]at e
     subst e
     simp[hb]at h3
  ·have e:=hf i hi
   rw[List.getElem?_append_left (by simpa using (List.getElem?_eq_some_iff.1 e).1),List.getElem?_map,e]
   cases h3:(wB h m).contains i with
   | true=>exact .inr ⟨h.length+i,by omega,by simp only[Option.map_some,h3,cond_true]⟩
   | false=>exact .inl (by simp only[Option.map_some,h3,cond_false])
theorem Zu {w0:World} {h0:aM} {c0:jI} {st:St} {a:Act} (iG:S9 w c st a) (x:Ext w0 h0 c0 w st.hp c) (hm:h0.length≤200):∃c',S9 w c' (st.gc h0.length) a∧Ext w0 h0 c0 w (st.gc h0.length).hp c':=by
 obtain ⟨h1,h2⟩:=WV st.hp (m:=h0.length) (n:=256) (by omega) (V.xj st.fr)
 exact ⟨_,⟨Uq iG.wf h1,Sk iG.fr⟩,pick_ext x h2⟩
theorem Tc {fr:List V} {ds:List Value} (r:cC w h c fr ds) (live drop:List Nat):cC w h c (Mm live drop fr) ds:=by
 refine ⟨by simp[Mm,r.1],fun j v d hv hd => ?_⟩
 unfold Mm at hv
 rw[List.getElem?_map,List.getElem?_zipIdx]at hv
 cases e:fr[j]? with
 | none=>rw[e]at hv; cases hv
 | some u =>
  rw[e]at hv
  simp at hv
  subst hv
  have ru:=r.2 j u d e hd
  split
  ·split
   ·exact WN ru
   ·exact ru
  ·exact .undef _
theorem GY:∀(l:List (Nat×Ty)) (st:St) (c:jI) (a:Act),S9 w c st a→∃c',S9 w c' (S0 l st) a∧Ext w st.hp c w (S0 l st).hp c'
 | [],st,c,a,iG=>⟨c,iG, .refl _ _ _⟩
 | (d,T)::l,st,c,a,iG=>by
  have key:∀(U:Ty),(∀x,a.tmps.toList[d]? = some x→x = .slice none 0 0) →
    ∃c',S9 w c' ⟨st.fr.set d (.sl U [] (.own st.hp.length)),st.hp ++ [.tok]⟩ a∧Ext w st.hp c w (st.hp ++ [.tok]) c':=by
   intro U hx
   obtain ⟨c',k1,k2,k3⟩:=Ue (id:=st.hp.length) (T:=U) (Po iG.wf 1) (by simp) (by rw[jB (Nat.le_refl _)]; simp[aM.at])
   have e:(st.hp++List.replicate 1 cm.free).set st.hp.length .tok=st.hp ++ [.tok]:=by simp
   rw[e]at k1 k2 k3
   have k4:=(xm (w:=w) (h:=st.hp) (c:=c) 1).trans k2
   refine ⟨c',⟨k1,?_⟩,k4⟩
   have rf:=iG.fr.mono k4
   refine ⟨by simp[rf.1],fun j v x hv hx' => ?_⟩
   rw[List.getElem?_set]at hv
   by_cases hj:d=j
   ·subst hj
    rw[if_pos rfl]at hv
    split at hv
    ·cases hv
     rw[hx x hx']
     exact k3
    ·cases hv
   ·rw[if_neg hj]at hv
    exact rf.2 j v x hv hx'
  simp only[S0]
  have rd:=iG.fr.getD d undef
  split
  ·rename_i he
   rw[he]at rd
   obtain ⟨c',s',x'⟩:=key T fun x hx=>by
    rw[List.getD,hx]at rd
    cases rd; rfl
   obtain ⟨c2,s2,x2⟩:=GY l _ c' a s'
   exact ⟨c2,s2,x'.trans x2⟩
  ·rename_i T' l' he
   rw[he]at rd
   have hl:l' = []:=by
    generalize a.tmps.toList.getD d undef=q at rd
    cases rd with
    | sl f iN tf hc hr D1 l9 =>
     have:=(D1 rfl).2
     exact List.eq_nil_of_length_eq_zero (by omega)
   subst hl
   obtain ⟨c',s',x'⟩:=key T' fun x hx=>by
    rw[List.getD,hx]at rd
    simp only[Option.getD_some]at rd
    generalize hn:([]:List T'.den)=nl at rd
    cases rd with
    | sl f iN tf hc hr D1 l9 =>
     obtain ⟨rfl,rfl⟩:=D1 rfl
     subst hn
     rfl
   obtain ⟨c2,s2,x2⟩:=GY l _ c' a s'
   exact ⟨c2,s2,x'.trans x2⟩
  ·exact GY l st c a iG
theorem put_nil {st:St} {a:Act} {d:Nat} {v:V} {h':aM} {c':jI} (iG:S9 w c st a) (he:st.fr.getD d .undef = .cx) (k1:WF w h' c') (k4:Ext w st.hp c w h' c') (k3:dx w h' c' v (.slice none 0 0)) :
  S9 w c' ⟨st.fr.set d v,h'⟩ a:=by
 refine ⟨k1,?_⟩
 have rf:=iG.fr.mono k4
 refine ⟨by simp[rf.1],fun j u x hv hx' => ?_⟩
 rw[List.getElem?_set]at hv
 by_cases hj:d=j
 ·subst hj
  rw[if_pos rfl]at hv
  split at hv
  ·cases hv
   have rd:=iG.fr.getD d undef
   rw[he,List.getD,hx']at rd
   cases rd
   exact k3
  ·cases hv
 ·rw[if_neg hj]at hv
  exact rf.2 j u x hv hx'
theorem new_row (wf:WF w h c) (T:Ty):∃c',WF w (h ++ [.row T []]) c'∧Ext w h c w (h ++ [.row T []]) c'∧dx w (h ++ [.row T []]) c' (.row h.length 0) (.slice none 0 0):=by
 obtain ⟨c',k1,k2,k3⟩:=Y8 (id:=h.length) (T:=T) (Po wf 1) (by simp) (by rw[jB (Nat.le_refl _)]; simp[aM.at])
 have e:(h++List.replicate 1 cm.free).set h.length (.row T [])=h ++ [.row T []]:=by simp
 rw[e]at k1 k2 k3
 exact ⟨c',k1,(xm 1).trans k2,k3⟩
theorem new_cell (wf:WF w h c) (T:Ty) (rw:Bool):∃c',WF w (h ++ [Gi T rw]) c'∧Ext w h c w (h ++ [Gi T rw]) c'∧dx w (h ++ [Gi T rw]) c' (BF T rw h.length) (.slice none 0 0):=by
 unfold Gi BF
 cases rw with
 | true=>exact new_row wf T
 | false =>
  simp only[cond_false]
  obtain ⟨c',k1,k2,k3⟩:=Ue (id:=h.length) (T:=T) (Po wf 1) (by simp) (by rw[jB (Nat.le_refl _)]; simp[aM.at])
  have e:(h++List.replicate 1 cm.free).set h.length .tok=h ++ [.tok]:=by simp
  rw[e]at k1 k2 k3
  exact ⟨c',k1,(xm 1).trans k2,k3⟩
theorem MB:∀(l:List (Nat×Ty)) (st:St) (c:jI) (a:Act),S9 w c st a→∃c',S9 w c' (Pg l st) a∧Ext w st.hp c w (Pg l st).hp c'
 | [],st,c,a,iG=>⟨c,iG, .refl _ _ _⟩
 | (d,T)::l,st,c,a,iG=>by
  simp only[Pg]
  split
  ·rename_i he
   obtain ⟨c',k1,k2,k3⟩:=new_row iG.wf T
   obtain ⟨c2,s2,x2⟩:=MB l ⟨st.fr.set d (.row st.hp.length 0),st.hp ++ [.row T []]⟩ c' a (put_nil iG he k1 k2 k3)
   exact ⟨c2,s2,k2.trans x2⟩
  ·exact MB l st c a iG
theorem VX {i:Nat} {cs ds:List V} (he:h.at i = .cells cs) (hl:ds.length=cs.length):Ext w h c w (h.set i (.cells ds)) c where
 os:=rfl
 tape:=rfl
 output:=rfl
 size:=Nat.le_refl _
 used:=fun j hj=>⟨by simpa using hj.1,by rw[mr]; split; simp; exact hj.2⟩
 same:=fun j hj hd=>by
  rw[mr]at hd ⊢
  split
  ·rename_i hc
   obtain ⟨rfl,_⟩:=hc
   rw[he]
   exact ⟨hl.symm,rfl,rfl⟩
  ·rename_i hc
   rw[if_neg hc]at hd
   exact ⟨Ld (Rl hj.2 hd) (fun _ _ _ => .inr trivial),rfl,rfl⟩
 cell:=fun _ _ _ _=>rfl
 block:=fun _ _ _=>rfl
 Bp:=fun b x _ ho=>by
  obtain ⟨j,f,g1,g2,g3⟩:=ho
  rw[mr]at g2
  split at g2
  ·rename_i hc
   obtain ⟨rfl,_⟩:=hc
   exact ⟨i,f,g1,by rw[he]; exact g2,g3⟩
  ·exact ⟨j,f,g1,g2,g3⟩
 ext:=rfl
 arr:=fun b arr e fz hb=>⟨arr,fz,hb,rfl⟩
theorem cells_wf (wf:WF w h c) {i:Nat} {cs ds:List V} (he:h.at i = .cells cs) (hl:ds.length=cs.length) (IZ:oD w (h.set i (.cells ds)) c i (.cells ds)):WF w (h.set i (.cells ds)) c where
 lay:=wf.vP (VX he hl)
 C8:=fun b x ho he'=>by
  obtain ⟨j,f,g1,g2,g3⟩:=ho
  refine wf.C8 b x ?_ he'
  rw[mr]at g2
  split at g2
  ·rename_i hc
   obtain ⟨rfl,_⟩:=hc
   exact ⟨i,f,g1,by rw[he]; exact g2,g3⟩
  ·exact ⟨j,f,g1,g2,g3⟩
 rG:=wf.rG
 obj:=fun j hj=>by
  rw[mr]
  split
  ·rename_i hc
   obtain ⟨rfl,_⟩:=hc
   exact IZ
  ·have ho:=wf.obj j (by simpa using hj)
   by_cases hv:(h.at j).live
   ·exact ho.uY (VX he hl) (fun _ _=>rfl) rfl rfl
   ·have h0:h.at j = .free∨h.at j = .dead:=by revert hv; cases h.at j <;> simp[cm.live]
    rcases h0 with h0|h0 <;> rw[h0] <;> trivial
 inj:=fun j k b hj hk h1 h2=>by
  have key:∀j,(aM.at (h.set i (.cells ds)) j).live→(h.at j).live:=fun j hj=>by
   rw[mr]at hj
   split at hj
   ·rename_i hc
    obtain ⟨rfl,_⟩:=hc
    rw[he]; trivial
   ·exact hj
  exact wf.inj j k b (key j hj) (key k hk) h1 h2
theorem Zv {i:Nat} {o':cm} (hf:∀f,(h.at i).from_ f=some 0) (hf':∀f,o'.from_ f=some 0) (xW:(h.at i).iG o') (jA:o' ≠ .free):Ext w h c w (h.set i o') c where
 os:=rfl
 tape:=rfl
 output:=rfl
 size:=Nat.le_refl _
 used:=fun j hj=>⟨by simpa using hj.1,by rw[mr]; split; exact jA; exact hj.2⟩
 same:=fun j hj hd=>by
  rw[mr]at hd ⊢
  split
  ·rename_i hc
   obtain ⟨rfl,_⟩:=hc
   exact ⟨xW,rfl,rfl⟩
  ·rename_i hc
   rw[if_neg hc]at hd
   exact ⟨Ld (Rl hj.2 hd) (fun _ _ _ => .inr trivial),rfl,rfl⟩
 cell:=fun _ _ _ _=>rfl
 block:=fun _ _ _=>rfl
 Bp:=fun b x _ ho=>by
  obtain ⟨j,f,g1,g2,g3⟩:=ho
  rw[mr]at g2
  split at g2
  ·rename_i hc
   obtain ⟨rfl,_⟩:=hc
   rw[hf']at g2
   cases g2
   exact ⟨i,0,g1,hf _,g3⟩
  ·exact ⟨j,f,g1,g2,g3⟩
 ext:=rfl
 arr:=fun b arr e fz hb=>⟨arr,fz,hb,rfl⟩
theorem turn_wf (wf:WF w h c) {i:Nat} {o':cm} (hf:∀f,(h.at i).from_ f=some 0) (hf':∀f,o'.from_ f=some 0) (xW:(h.at i).iG o') (jA:o' ≠ .free) (IZ:oD w (h.set i o') c i o'):WF w (h.set i o') c where
 lay:=wf.vP (Zv hf hf' xW jA)
 C8:=fun b x ho he'=>by
  obtain ⟨j,f,g1,g2,g3⟩:=ho
  refine wf.C8 b x ?_ he'
  rw[mr]at g2
  split at g2
  ·rename_i hc
   obtain ⟨rfl,_⟩:=hc
   rw[hf']at g2
   cases g2
   exact ⟨i,0,g1,hf _,g3⟩
  ·exact ⟨j,f,g1,g2,g3⟩
 rG:=wf.rG
 obj:=fun j hj=>by
  rw[mr]
  split
  ·rename_i hc
   obtain ⟨rfl,_⟩:=hc
   exact IZ
  ·have ho:=wf.obj j (by simpa using hj)
   by_cases hv:(h.at j).live
   ·exact ho.uY (Zv hf hf' xW jA) (fun _ _=>rfl) rfl rfl
   ·have h0:h.at j = .free∨h.at j = .dead:=by revert hv; cases h.at j <;> simp[cm.live]
    rcases h0 with h0|h0 <;> rw[h0] <;> trivial
 inj:=fun j k b hj hk h1 h2=>by
  have key:∀j,(aM.at (h.set i o') j).live→(h.at j).live:=fun j hj=>by
   rw[mr]at hj
   split at hj
   ·rename_i hc
    obtain ⟨rfl,_⟩:=hc
    exact uN (hf 0)
   ·exact hj
  exact wf.inj j k b (key j hj) (key k hk) h1 h2
theorem uO:∀(l:List (Nat×Nat×Ty×Bool)) (st:St) (c:jI) (a:Act),S9 w c st a→∃c',S9 w c' (GU l st) a∧Ext w st.hp c w (GU l st).hp c'
 | [],st,c,a,iG=>⟨c,iG, .refl _ _ _⟩
 | (i,o,T,rw)::l,st,c,a,iG=>by
  simp only[GU]
  split
  ·rename_i cs EG
   split
   ·rename_i ho
    obtain ⟨c',k1,k2,k3⟩:=new_cell iG.wf T rw
    have hi:=aM.gF EG (by simp)
    have hcs':aM.at (st.hp ++ [Gi T rw]) i = .cells cs:=by rw[kl hi]; exact EG
    have e:st.hp.set i (.cells (cs.set o (BF T rw st.hp.length))) ++ [Gi T rw]=(st.hp ++ [Gi T rw]).set i (.cells (cs.set o (BF T rw st.hp.length))):=by
     rw[List.set_append_left _ _ hi]
    rw[e]
    have hl:(cs.set o (BF T rw st.hp.length)).length=cs.length:=by simp
    have x1:=VX (w:=w) (c:=c') hcs' hl
    have IZ:=k1.obj i (by simp; omega)
    rw[hcs']at IZ
    obtain ⟨b,arr,el,g1,g2,g3⟩:=IZ
    have w1:=cells_wf k1 hcs' hl (by
     refine ⟨b,arr,el,g1,g2,?_⟩
     have g3':=g3.mono x1
     refine ⟨by simpa using g3'.1,fun j v d hv hd => ?_⟩
     rw[List.getElem?_set]at hv
     by_cases hj:o=j
     ·subst hj
      rw[if_pos rfl]at hv
      split at hv
      ·cases hv
       have rd:=g3.getD o undef
       rw[ho,List.getD,hd]at rd
       cases rd
       exact k3.mono x1
      ·cases hv
     ·rw[if_neg hj]at hv
      exact g3'.2 j v d hv hd)
    have x2:=k2.trans x1
    obtain ⟨c2,s2,x3⟩:=uO l ⟨st.fr,(st.hp ++ [Gi T rw]).set i (.cells (cs.set o (BF T rw st.hp.length)))⟩ c' a ⟨w1,iG.fr.mono x2⟩
    exact ⟨c2,s2,x2.trans x3⟩
   ·exact uO l st c a iG
  ·rename_i v EG
   split
   ·obtain ⟨c',k1,k2,k3⟩:=new_cell iG.wf T rw
    have hi:=aM.gF EG (by simp)
    have hcs':aM.at (st.hp ++ [Gi T rw]) i = .mE .cx:=by rw[kl hi]; exact EG
    have e:st.hp.set i (.mE (BF T rw st.hp.length)) ++ [Gi T rw]=(st.hp ++ [Gi T rw]).set i (.mE (BF T rw st.hp.length)):=by
     rw[List.set_append_left _ _ hi]
    rw[e]
    have hf:∀f,(aM.at (st.hp ++ [Gi T rw]) i).from_ f=some 0:=fun f=>by rw[hcs']; rfl
    have xW:(aM.at (st.hp ++ [Gi T rw]) i).iG (.mE (BF T rw st.hp.length)):=by rw[hcs']; trivial
    have x1:=Zv (w:=w) (c:=c') hf (o' := .mE (BF T rw st.hp.length)) (fun _=>rfl) xW (by simp)
    have IZ:=k1.obj i (by simp; omega)
    rw[hcs']at IZ
    obtain ⟨b,p,d,g1,g2,g3,g4⟩:=IZ
    have w1:=turn_wf k1 hf (o' := .mE (BF T rw st.hp.length)) (fun _=>rfl) xW (by simp) (by
     cases g4
     exact ⟨b,p,_,g1,g2,g3,k3.mono x1⟩)
    have x2:=k2.trans x1
    obtain ⟨c2,s2,x3⟩:=uO l ⟨st.fr,(st.hp ++ [Gi T rw]).set i (.mE (BF T rw st.hp.length))⟩ c' a ⟨w1,iG.fr.mono x2⟩
    exact ⟨c2,s2,x2.trans x3⟩
   ·exact uO l st c a iG
  ·exact uO l st c a iG
theorem norm_sound {w0:World} {h0:aM} {c0:jI} {st:St} {a:Act} (iG:S9 w c st a) (x:Ext w0 h0 c0 w st.hp c) (hm:h0.length≤200) (hint:Hint) :
  ∃c',S9 w c' (norm h0.length hint st) a∧Ext w0 h0 c0 w (norm h0.length hint st).hp c':=by
 obtain ⟨c,iG,x⟩:∃c',S9 w c' (preGc h0.length hint ⟨Mm hint.live hint.drop st.fr,st.hp⟩) a∧Ext w0 h0 c0 w (preGc h0.length hint ⟨Mm hint.live hint.drop st.fr,st.hp⟩).hp c':=by
  unfold preGc
  split
  ·exact ⟨c,⟨iG.wf,Tc iG.fr _ _⟩,x⟩
  ·exact Zu (st:=⟨Mm hint.live hint.drop st.fr,st.hp⟩) ⟨iG.wf,Tc iG.fr _ _⟩ x hm
 obtain ⟨c1,s1,x1⟩:=GY hint.own _ c a iG
 obtain ⟨c2,s2,x2⟩:=MB hint.rows _ c1 a s1
 obtain ⟨c3,s3,x3⟩:=uO hint.cells _ c2 a s2
 exact Zu s3 (((x.trans x1).trans x2).trans x3) hm
theorem trim_sound {w0:World} {h0:aM} {c0:jI} {st:St} {a:Act} (iG:S9 w c st a) (x:Ext w0 h0 c0 w st.hp c) (hm:h0.length≤200) (hint:Hint) :
  ∃c',S9 w c' (trim h0.length hint st) a∧Ext w0 h0 c0 w (trim h0.length hint st).hp c' :=
 Zu (st:=⟨Mm hint.out [] st.fr,st.hp⟩) ⟨iG.wf,Tc iG.fr _ _⟩ x hm
theorem Zw:∀(ts:List Nat) (vs:List V) (ds:List Value),ts.length=ds.length→cC w h c vs ds→cC w h c (canonL tt ts vs) ds
 | [],vs,ds,hl,r=>by
  have:ds = []:=List.eq_nil_of_length_eq_zero hl.symm
  subst this
  exact .nil
 | t::ts, [],ds,hl,r=>by
  have:ds = []:=List.eq_nil_of_length_eq_zero (by simpa using r.1.symm)
  subst this
  simp at hl
 | t::ts,v::vs, [],hl,r=>by simp at hl
 | t::ts,v::vs,d::ds,hl,r => .cons (canon_rep r.head) (Zw ts vs ds (by simpa using hl) r.tail)
end
section
variable {P:Program} {tt:dd} {R:Type}
def xY (fr:List V) (log:List (Nat×V)):List V:=log.foldr (fun x f=>f.set x.1 x.2) fr
theorem D9 (fr:List V):∀log:List (Nat×V),(xY fr log).length=fr.length
 | []=>rfl
 | x::log=>by simp[xY]; exact D9 fr log
theorem beqF (a b:Nat):Nat.beq a b=decide (a=b):=by
 cases hb:Nat.beq a b with
 | true=>simp[Nat.eq_of_beq_eq_true hb]
 | false=>simp[Nat.ne_of_beq_eq_false hb]
theorem look_eq (fr:List V) (t:Nat) (d:V) (hd:fr.getD t .undef=d):∀log:List (Nat×V),(∀x∈log,x.1<fr.length)→Si log t d=(xY fr log).getD t .undef
 | [],_=>hd.symm
 | x::log,h=>by
  have ih:=look_eq fr t d hd log fun y hy=>h y (by simp[hy])
  have hx:=h x (by simp)
  have hl:=D9 fr log
  have e:xY fr (x::log)=(xY fr log).set x.1 x.2:=rfl
  have e2:Si (x::log) t d=cond (Nat.beq x.1 t) x.2 (Si log t d):=rfl
  rw[e,e2,beqF,ih]
  by_cases hxt:x.1=t
  ·subst hxt
   simp[List.getD,List.getElem?_set_self,hl,hx]
  ·simp[hxt,List.getD,List.getElem?_set_ne hxt]
theorem lookC_eq {β:Type} (t:Nat) (d:V) (k:V→β):∀log:List (Nat×V),YN log t d k=k (Si log t d)
 | []=>rfl
 | x::log=>by
  have ih:=lookC_eq t d k log
  have e1:YN (x::log) t d k=cond (Nat.beq x.1 t) (k x.2) (YN log t d k):=rfl
  have e2:Si (x::log) t d=cond (Nat.beq x.1 t) x.2 (Si log t d):=rfl
  rw[e1,e2,ih]
  cases Nat.beq x.1 t <;> rfl
def Ea (log:List (Nat×V)):Nat→List V→List V
 | _, [] => []
 | i,v::r=>Si log i v::Ea log (i+1) r
theorem WW {β:Type} (log:List (Nat×V)):∀(fr:List V) (i:Nat) (k:List V→β),
  List.rec (motive:=fun _=>Nat→(List V→β)→β) (fun _ k=>k []) (fun v _ ih i k=>YN log i v fun v'=>ih (i+1) fun r=>k (v'::r)) fr i k=k (Ea log i fr)
 | [],_,_=>rfl
 | v::fr,i,k=>by
  show YN log i v (fun v'=>List.rec (motive:=fun _=>Nat→(List V→β)→β) (fun _ k=>k []) (fun v _ ih i k=>YN log i v fun v'=>ih (i+1) fun r=>k (v'::r)) fr (i+1) fun r=>k (v'::r))=_
  rw[lookC_eq,WW log fr (i+1)]
  rfl
theorem Sl (log:List (Nat×V)):∀(fr:List V) (i j:Nat),(Ea log i fr)[j]? = (fr[j]?).map fun v=>Si log (i+j) v
 | [],_,_=>by simp[Ea]
 | v::fr,i,0=>by simp[Ea]
 | v::fr,i,j+1=>by
  simp only[Ea,List.getElem?_cons_succ]
  rw[Sl log fr (i+1) j]
  congr 1
  funext v
  congr 1
  omega
theorem mergeC_eq {β:Type} (fr:List V) (log:List (Nat×V)) (hl:∀x∈log,x.1<fr.length) (k:List V→β):mergeC log fr k=k (xY fr log):=by
 have h1:mergeC log fr k=k (Ea log 0 fr):=WW log fr 0 k
 rw[h1]
 congr 1
 apply List.ext_getElem?
 intro j
 rw[Sl,Nat.zero_add]
 cases hj:fr[j]? with
 | none =>
  have:(xY fr log)[j]? = none:=by
   rw[List.getElem?_eq_none_iff,D9]
   exact List.getElem?_eq_none_iff.1 hj
  rw[this]; rfl
 | some v =>
  have je:j<(xY fr log).length:=by rw[D9]; exact (List.getElem?_eq_some_iff.1 hj).1
  have h2:=look_eq fr j v (by simp[List.getD,hj]) log hl
  rw[Option.map_some,h2]
  simp[List.getD,List.getElem?_eq_getElem je]
theorem evF_eq (fr:List V) (log:List (Nat×V)) (hl:∀x∈log,x.1<fr.length):evF fr log=ev (xY fr log):=by
 funext x
 cases x with
 | tmp t=>exact look_eq fr t _ rfl log hl
 | _=>rfl
theorem push_eq (fr:List V) (log:List (Nat×V)) (dst:Option Nat) (v:V):xY fr (pushF fr.length log dst v)=mW (xY fr log) dst v:=by
 cases dst with
 | none=>rfl
 | some d =>
  unfold pushF mW
  simp only
  cases h:Nat.blt d fr.length with
  | true=>rfl
  | false =>
   have:¬d<fr.length:=by
    intro h2
    have h3:Nat.blt d fr.length=true:=by simpa using h2
    rw[h3]at h
    cases h
   simp only[cond_false]
   rw[List.set_eq_of_length_le (by rw[D9]; omega)]
theorem push_ok {fr:List V} {log:List (Nat×V)} (hl:∀x∈log,x.1<fr.length) (dst:Option Nat) (v:V):∀x∈pushF fr.length log dst v,x.1<fr.length:=by
 cases dst with
 | none=>exact hl
 | some d =>
  unfold pushF
  simp only
  cases h:Nat.blt d fr.length with
  | true =>
   intro x hx
   rcases List.mem_cons.1 hx with rfl|hx
   ·simpa using h
   ·exact hl x hx
  | false=>exact hl
theorem stepF_eq {E:Env R} {drawn:Option Nat} {id:Nat} {o:Oper} {st:St} {k:St→Option R}:EX tt E drawn id o st k=stepF tt E drawn id o (ev st.fr) st.hp fun v h=>k ⟨mW st.fr o.dst v,h⟩:=by
 unfold EX stepF
 cases fy tt o.op <;> rfl
theorem guardF_eq {all:List Oper} {o:Oper} {fr:List V} {log:List (Nat×V)} {hp:aM} (hl:∀x∈log,x.1<fr.length) {run skip:St→Option R} {runF skipF:List (Nat×V)→Option R}
  (hr:∀log,(∀x∈log,x.1<fr.length)→runF log=run ⟨xY fr log,hp⟩) (hs:∀log,(∀x∈log,x.1<fr.length)→skipF log=skip ⟨xY fr log,hp⟩) :
  guardF all o fr log runF skipF=Ak all o ⟨xY fr log,hp⟩ run skip:=by
 unfold guardF Ak
 cases o.guard with
 | none=>exact hr log hl
 | some jw =>
  obtain ⟨j,want⟩:=jw
  simp only
  cases (all[j]?).bind (·.dst)with
  | none=>rfl
  | some d =>
   simp only
   rw[look_eq fr d _ rfl log hl]
   cases hb:(xY fr log).getD d .undef with
   | bool b =>
    have hd:d<fr.length:=by
     rcases Nat.lt_or_ge d fr.length with h|h
     ·exact h
     ·rw[←D9 fr log]at h
      simp[List.getD,List.getElem?_eq_none h]at hb
    have h2:∀v:V,∀x∈(d,v)::log,x.1<fr.length:=fun v x hx=>by
     rcases List.mem_cons.1 hx with rfl|hx
     ·exact hd
     ·exact hl x hx
    simp only
    rw[hr _ (h2 _),hs _ (h2 _),hr _ (h2 _),hs _ (h2 _)]
    rfl
   | tuple vs =>
    cases vs with
    | nil=>exact hs log hl
    | cons _ _=>rfl
   | _=>rfl
theorem opsF_eq {E:Env R} {drawn:Option Nat} {all:List Oper} {fr:List V}:∀(l:List Oper) (id:Nat) (log:List (Nat×V)) (hp:aM) (k:St→Option R),(∀x∈log,x.1<fr.length) →
  opsF tt E drawn all fr.length fr l id log hp k=YL tt E drawn all l id ⟨xY fr log,hp⟩ k
 | [],_,log,hp,k,hl=>by
  simp only[opsF,YL]
  rw[mergeC_eq fr log hl,K6]
 | o::l,id,log,hp,k,hl=>by
  simp only[opsF,YL,Mj]
  refine guardF_eq hl (fun log hl => ?_) fun log hl => ?_
  ·rw[stepF_eq,evF_eq fr log hl]
   congr 1
   funext v h
   rw[K6,opsF_eq l _ _ _ _ (push_ok hl o.dst v),push_eq]
  ·rw[opsF_eq l _ _ _ _ (push_ok hl o.dst _),push_eq]
theorem regionF_eq {E:Env R} {ops:List Oper} {draw:Bool} {st:St} {k:St→Option R}:regionF tt E ops draw st k=Ri tt E ops draw st k:=by
 unfold regionF Ri
 simp only
 have h:=fun (dr:Option Nat) (hp:aM)=>opsF_eq (tt:=tt) (E:=E) (drawn:=dr) (all:=ops) (fr:=st.fr) ops st.hp.length [] hp k (by simp)
 rw[h,h]
 rfl
end
section
variable {P:Program} {tt:dd} {w w':World} {h h':aM} {c c':jI} {R:Type}
def Ex.out:Ex→Exit
 | .normal => .normal
 | .exit id => .exit id
 | .goto l => .goto l
 | .ret => .ret
theorem anyT_some {a b:Option R} {r:R} (h:anyT a b=some r):a=some r∧b=some r:=by
 unfold anyT at h
 split at h
 ·rename_i e; exact ⟨h,e▸h⟩
 ·cases h
theorem wp_rounds {b0:Code} {Q:Exit→Act→World→Prop} (I:Nat→Act→World→Prop) (h0:∀a w, ¬I 0 a w) (round:∀n a w,I (n+1) a w→b0.wp P (Exit.then (I n) Q) a w) {n:Nat} {a:Act} {w:World} (hI:I n a w) :
  (Code.loop b0).wp P Q a w:=by
 intro b k cs
 have key:∀n a w,I n a w→∃e a' w',Q e a' w'∧Arrives P (lone (b.at a (.code b0 :: .inLoop b0::k)) cs w) b k cs e a' w':=by
  intro n
  induction n with
  | zero=>exact fun a w h=>(h0 a w h).elim
  | succ n ih =>
   intro a w hI
   obtain ⟨e,a1,w1,hq,HH⟩:=round n a w hI b (.inLoop b0::k) cs
   cases e with
   | normal =>
    obtain ⟨e2,a2,w2,hq2,harr2⟩:=ih a1 w1 hq
    exact ⟨e2,a2,w2,hq2, .of_steps (Steps.trans HH (.one step_inLoop)) harr2⟩
   | exit id=>exact ⟨_,a1,w1,hq, .pass (x := .inLoop b0) rfl (fun _ _ => .inl (by simp)) HH⟩
   | goto l=>exact ⟨_,a1,w1,hq, .pass (x := .inLoop b0) rfl (fun _ _ => .inl (by simp)) HH⟩
   | ret=>exact ⟨_,a1,w1,hq, .pass (x := .inLoop b0) rfl (fun _ _ => .inl (by simp)) HH⟩
   | panic ch=>exact ⟨_,a1,w1,hq, .pass (x := .inLoop b0) rfl (fun _ _ => .inl (by simp)) HH⟩
   | outgrown=>exact ⟨_,a1,w1,hq, .pass (x := .inLoop b0) rfl (fun _ _ => .inl (by simp)) HH⟩
 obtain ⟨e,a',w',hq,HH⟩:=key n a w hI
 exact ⟨e,a',w',hq, .of_steps (.one step_loop) HH⟩
def ji (tt:dd) (E:Env R) (L:Nat→Option (Hint×dE R)) (m:Nat) (a:Code):Prop :=
 ∀hint ls,L (keyOf a)=some (hint,ls)→∀st (K:Ex→St→Option R) r,ls st K=some r→∃n,Jk (kj tt E L m a) (norm m hint) n st (fun e st=>K e (trim m hint st))=some r
def aN:Code→List Code
 | .seq a b=>aN a++aN b
 | .cond _ a b=>aN a++aN b
 | .block _ a=>aN a
 | .loop a=>a::aN a
 | _ => []
theorem iterK_eq (body:dE R):∀n st K,iterK body n st K=Jk body id n st K
 | 0,_,_=>rfl
 | n+1,st,K=>by
  simp only[iterK,Jk]
  congr 1
  funext e xH
  cases e <;> first|rfl|exact iterK_eq body n xH K
section
variable {w0:World} {h0:aM} {c0:jI} {D:List Deferred}
structure At (w0:World) (h0:aM) (c0:jI) (D:List Deferred) (w:World) (st:St) (a:Act) (c:jI):Prop where
 iG:S9 w c st a
 ext:Ext w0 h0 c0 w st.hp c
 defers:a.defers=D
def Ends (w0:World) (h0:aM) (c0:jI) (D:List Deferred) (K:Ex→St→Option R) (r:R) (Q:Exit→Act→World→Prop):Prop :=
 ∀e st a w c,At w0 h0 c0 D w st a c→K e st=some r→Q e.out a w
theorem nJ (T:AU P tt) (hm:P.follows .mixedOrders=true) {E:Env R} (hE:EOk P E) {L:Nat→Option (Hint×dE R)} (hlen:h0.length≤200) {r:R}:∀(code:Code),(∀a∈aN code,ji tt E L h0.length a) →
  ∀(Q:Exit→Act→World→Prop) (K:Ex→St→Option R) (st:St) (a:Act) (w:World) (c:jI),At w0 h0 c0 D w st a c→kj tt E L h0.length code st K=some r→Ends w0 h0 c0 D K r Q→code.wp P Q a w
 | .skip,_,Q,K,st,a,w,c,at_,hk,he=>wp_skip (he .normal st a w c at_ hk)
 | .region id ops draw,_,Q,K,st,a,w,c,at_,hk,he=>by
  simp only[kj,regionF_eq]at hk
  have go:Goes w c st a (fun xH=>K .normal xH) r (Q .normal):=fun a' w' xH c' s x d k=>he .normal xH a' w' c' ⟨s,at_.ext.trans x,d.trans at_.defers⟩ k
  cases draw with
  | true=>exact draw_sound T hm hE hk at_.iG go
  | false=>exact region_sound T hE hk at_.iG go
 | .seq x y,hl,Q,K,st,a,w,c,at_,hk,he=>by
  simp only[kj]at hk
  refine wp_seq (nJ T hm hE hlen x (fun b hb=>hl b (by simp[aN,hb])) _ _ st a w c at_ hk fun e xH a' w' c' at' ui => ?_)
  cases e with
  | normal=>exact nJ T hm hE hlen y (fun b hb=>hl b (by simp[aN,hb])) Q K xH a' w' c' at' ui he
  | exit i=>exact he (.exit i) xH a' w' c' at' ui
  | goto l=>exact he (.goto l) xH a' w' c' at' ui
  | ret=>exact he .ret xH a' w' c' at' ui
 | .cond cnd x y,hl,Q,K,st,a,w,c,at_,hk,he=>by
  simp only[kj]at hk
  split at hk <;> try (first|cases hk)
  ·rename_i t ht
   have rc:=ev_rep at_.iG.fr cnd
   rw[ht]at rc
   generalize hv:a.eval cnd=v at rc
   cases rc
   refine wp_cond hv ?_
   cases t with
   | true=>exact nJ T hm hE hlen x (fun b hb=>hl b (by simp[aN,hb])) Q K st a w c at_ hk he
   | false=>exact nJ T hm hE hlen y (fun b hb=>hl b (by simp[aN,hb])) Q K st a w c at_ hk he
  ·rename_i ht
   have rc:=ev_rep at_.iG.fr cnd
   rw[ht]at rc
   generalize hv:a.eval cnd=v at rc
   cases rc with
   | RN t =>
    refine wp_cond hv ?_
    obtain ⟨h1,h2⟩:=anyT_some hk
    cases t with
    | true=>exact nJ T hm hE hlen x (fun b hb=>hl b (by simp[aN,hb])) Q K st a w c at_ h1 he
    | false=>exact nJ T hm hE hlen y (fun b hb=>hl b (by simp[aN,hb])) Q K st a w c at_ h2 he
 | .block id x,hl,Q,K,st,a,w,c,at_,hk,he=>by
  simp only[kj]at hk
  refine wp_block (nJ T hm hE hlen x (fun b hb=>hl b (by simp[aN,hb])) _ _ st a w c at_ hk fun e xH a' w' c' at' ui => ?_)
  cases e with
  | normal=>exact he .normal xH a' w' c' at' ui
  | exit i =>
   simp only[Ex.out,Exit.inBlock]
   simp only at ui
   split
   ·rename_i hi
    rw[if_pos hi]at ui
    exact he .normal xH a' w' c' at' ui
   ·rename_i hi
    rw[if_neg hi]at ui
    exact he (.exit i) xH a' w' c' at' ui
  | goto l=>exact he (.goto l) xH a' w' c' at' ui
  | ret=>exact he .ret xH a' w' c' at' ui
 | .loop x,hl,Q,K,st,a,w,c,at_,hk,he=>by
  have hx:∀b∈aN x,ji tt E L h0.length b:=fun b hb=>hl b (by simp[aN,hb])
  have main:∀(f g:St→St),(∀w st a c,At w0 h0 c0 D w st a c→∃c',At w0 h0 c0 D w (f st) a c')→(∀w st a c,At w0 h0 c0 D w st a c→∃c',At w0 h0 c0 D w (g st) a c') →
    ∀n st a w c,At w0 h0 c0 D w st a c→Jk (kj tt E L h0.length x) f n st (fun e st=>K e (g st))=some r→(Code.loop x).wp P Q a w:=by
   intro f g hf hg n st a w c at_ hk
   refine wp_rounds (fun n a w=>∃st c,At w0 h0 c0 D w st a c∧Jk (kj tt E L h0.length x) f n st (fun e st=>K e (g st))=some r) (fun a w => ?_) (fun n a w => ?_) ⟨st,c,at_,hk⟩
   ·rintro ⟨st,c,_,hk⟩
    cases hk
   ·rintro ⟨st,c,at_,hk⟩
    simp only[Jk]at hk
    refine nJ T hm hE hlen x hx _ _ st a w c at_ hk fun e xH a' w' c' at' ui => ?_
    cases e with
    | normal =>
     obtain ⟨c2,at2⟩:=hf w' xH a' c' at'
     exact ⟨f xH,c2,at2,ui⟩
    | exit i=>obtain ⟨c2,at2⟩:=hg w' xH a' c' at'; exact he (.exit i) _ a' w' c2 at2 ui
    | goto l=>obtain ⟨c2,at2⟩:=hg w' xH a' c' at'; exact he (.goto l) _ a' w' c2 at2 ui
    | ret=>obtain ⟨c2,at2⟩:=hg w' xH a' c' at'; exact he .ret _ a' w' c2 at2 ui
  simp only[kj]at hk
  split at hk
  ·rename_i hint ls hL
   have hnorm:∀w st a c,At w0 h0 c0 D w st a c→∃c',At w0 h0 c0 D w (norm h0.length hint st) a c':=fun w st a c at_=>by
    obtain ⟨c',s',x'⟩:=norm_sound at_.iG at_.ext hlen hint
    exact ⟨c',s',x',at_.defers⟩
   have htrim:∀w st a c,At w0 h0 c0 D w st a c→∃c',At w0 h0 c0 D w (trim h0.length hint st) a c':=fun w st a c at_=>by
    obtain ⟨c',s',x'⟩:=trim_sound at_.iG at_.ext hlen hint
    exact ⟨c',s',x',at_.defers⟩
   obtain ⟨n,hn⟩:=hl x (by simp[aN]) hint ls hL _ _ _ hk
   obtain ⟨c',at'⟩:=hnorm w st a c at_
   exact main _ _ hnorm htrim n _ a w c' at' hn
  ·rw[iterK_eq]at hk
   exact main id id (fun w st a c h=>⟨c,h⟩) (fun w st a c h=>⟨c,h⟩) 70 st a w c at_ hk
 | .exit id,_,Q,K,st,a,w,c,at_,hk,he=>wp_exit (he (.exit id) st a w c at_ hk)
 | .ret,_,Q,K,st,a,w,c,at_,hk,he=>wp_ret (he .ret st a w c at_ hk)
 | .label _,_,_,_,_,_,_,_,_,hk,_=>by simp[kj]at hk
 | .goto _,_,_,_,_,_,_,_,_,hk,_=>by simp[kj]at hk
 | .scope _,_,_,_,_,_,_,_,_,hk,_=>by simp[kj]at hk
 | .refuse _,_,_,_,_,_,_,_,_,hk,_=>by simp[kj]at hk
end
theorem Td (T:AU P tt) {st:St} {a:Act} (iG:S9 w c st a):∀(rs:List ResultVar) {k:List V→Option R} {r:R},resK tt st rs k=some r →
  ∃vs ds,k vs=some r∧cC w st.hp c vs ds∧ds.length=rs.length∧(rs.mapM (m:=Sem) fun | .tmp t=>pure (a.tmps.getD t undef) | .cell b t=>do loadVar t (←asAddr (a.tmps.getD b undef))).run P w = .ok ds w
 | [],k,r,hk=>⟨[], [],hk, .nil,rfl,by simp⟩
 | .tmp t::rs,k,r,hk=>by
  simp only[resK]at hk
  obtain ⟨vs,ds,h1,h2,h3,h4⟩:=Td T iG rs hk
  refine ⟨_,a.tmps.getD t undef::ds,h1, .cons ?_ h2,by simp[h3],?_⟩
  ·have:=iG.fr.getD t undef
   simpa [List.getD,Array.getD_eq_getD_getElem?]using this
  ·simp only[List.mapM_cons,Sem.run_bind,Sem.run_pure,Result.andThen_ok,h4]
 | .cell b t::rs,k,r,hk=>by
  simp only[resK]at hk
  split at hk <;> try (first|cases hk)
  rename_i i o hp
  split at hk <;> try (first|cases hk)
  rename_i cs EG
  have hl:=YZ (P:=P) T iG.wf (t:=t) (a := .ptr i o) (a':=a.tmps.getD b undef) (lim:=none) (k:=fun v=>resK tt st rs fun vs=>k (v::vs)) (r:=r) (by
    have:=iG.fr.getD b undef
    rw[hp]at this
    simpa [List.getD,Array.getD_eq_getD_getElem?]using this) (by simp only[Oe,if_true,EG]; exact hk)
  obtain ⟨v,v',g1,g2,g3⟩:=hl
  obtain ⟨vs,ds,h1,h2,h3,h4⟩:=Td T iG rs g3
  refine ⟨_,v'::ds,h1, .cons g2 h2,by simp[h3],?_⟩
  have hb:(do loadVar t (←asAddr (a.tmps.getD b undef)):Sem Value).run P w = .ok v' w:=by
   have rb:=iG.fr.getD b undef
   rw[hp]at rb
   have e:a.tmps.toList.getD b undef=a.tmps.getD b undef:=by simp[List.getD,Array.getD_eq_getD_getElem?]
   rw[e]at rb
   generalize a.tmps.getD b undef=q at rb g1
   cases rb with
   | ptr hu hv =>
    obtain ⟨b',rfl,_⟩:=hv
    simpa [Instr.loadAt,Instr.sureAddr,asAddr]using g1
  simp only[List.mapM_cons,Sem.run_bind,hb,Sem.run_pure,Result.andThen_ok,h4]
theorem finishK_sound {w0:World} {h0:aM} {c0:jI} {ts:List Nat} {uY:Bool} {vs:List V} {ds:List Value} (wf:WF w h c) (r:cC w h c vs ds) (x:Ext w0 h0 c0 w h c) (hm:h0.length≤200) (hts:ts.length=ds.length) {k:V→aM→Option R} {q:R}
  (hk:Yf tt ts h0.length uY vs h k=some q):∃v h' c',WF w h' c'∧Ext w0 h0 c0 w h' c'∧dx w h' c' v (if h:ds.length=1 then ds[0]else .tuple ds.toArray)∧k v h'=some q:=by
 unfold Yf at hk
 have main:∀(ws:List V) (h1:aM),WF w h1 c→cC w h1 c ws ds→Ext w0 h0 c0 w h1 c →
   ∀ord:List Nat,ord.Nodup→(∀i,i<h0.length→ord[i]? = some i∨∃j,h1.length≤j∧ord[i]? = some j) →
   k (match V.DZ (Dl ord) ws with | [v]=>v|l => .tuple l) (h1.pick ord)=some q →
   ∃v h' c',WF w h' c'∧Ext w0 h0 c0 w h' c'∧dx w h' c' v (if h:ds.length=1 then ds[0]else .tuple ds.toArray)∧k v h'=some q:=by
  intro ws h1 wf1 r1 x1 ord g1 g2 hk
  have rr:=Sk (ord:=ord) r1
  refine ⟨_,_,_,Uq wf1 g1,pick_ext' x1 g2,?_,hk⟩
  have hlen:=rr.1
  generalize V.DZ (Dl ord) ws=us at rr hlen
  split
  ·rename_i v
   have h1:ds.length=1:=by simpa using hlen.symm
   rw[dif_pos h1]
   exact rr.2 0 v _ rfl (List.getElem?_eq_getElem _)
  ·rename_i jA
   have h1:¬ds.length=1:=fun e=>by
    rw[e]at hlen
    match us,hlen with
    | [v],_=>exact jA v rfl
   rw[dif_neg h1]
   exact .tuple (by simpa using hlen) fun j v d hv hd=>rr.2 j v d hv (by simpa using hd)
 have hrr:=fun (h1:aM) (ws:List V)=>WV h1 (m:=h0.length) (n:=256) (by omega) (V.xj ws)
 cases uY with
 | true =>
  simp only[if_true,Bool.true_and]at hk
  cases he:(V.xj vs).isEmpty with
  | true =>
   rw[he]at hk
   obtain ⟨g1,g2⟩:=rebirth_spec (h:=h) (hrr h vs).1 (hrr h vs).2
   exact main vs h wf r x _ g1 g2 hk
  | false =>
   rw[he]at hk
   exact main vs h wf r x _ (hrr h vs).1 (fun i hi => .inl ((hrr h vs).2 i hi)) hk
 | false =>
  simp only[Bool.false_eq_true,if_false,Bool.false_and,cond_false]at hk
  exact main _ _ (Jp _ _ wf) (Zw ts _ ds hts (shutL_rep wf r)) (x.trans (GW _ _)) _ (hrr _ _).1 (fun i hi => .inl ((hrr _ _).2 i hi)) hk
theorem Zx (T:AU P tt) (hm:P.follows .mixedOrders=true) {E:Env R} (hE:EOk P E) {L:Nat→Option (Hint×dE R)} {g:Nat} {fn:Func} {code:Code} {uY:Bool} (hf:P.funcs[g]? = some fn) (hb:fn.body=some code)
  (hn:(fn.name == "runtime.NumGoroutine")=false) (hr:fn.results.size=fn.resultTypes.size) (m:Nat) (hl:∀a∈aN code,ji tt E L m a):Spec.OkAt P g m (RO tt E L uY fn code):=by
 refine Spec.OkAt.of_body hf hn (by rw[hb]; rfl) fun vs h k r hml hk w c args wf ra => ?_
 subst hml
 refine calls_of_wp hf hb ?_
 unfold RO at hk
 split at hk
 ·cases hk
 rename_i h200
 have hlen:h.length≤200:=by omega
 have hfr:cC w h c (vs++List.replicate (fn.ntmps - vs.length) .undef) (args++Array.replicate (fn.ntmps - args.size) undef).toList:=by
  have e:vs.length=args.size:=by simpa using ra.1
  rw[e]
  simpa using ra.append (cC.Xw (fn.ntmps - args.size) undef)
 refine nJ T hm hE (w0:=w) (h0:=h) (c0:=c) (D := []) hlen code hl _ _ _ _ w c ⟨⟨wf,hfr⟩, .refl _ _ _,rfl⟩ hk fun e st a w' c' at' ui => ?_
 have fin:resK tt st fn.results.toList (fun vs=>Yf tt fn.resultTypes.toList h.length uY vs st.hp k)=some r →
   a.defers = []∧∃v,(results fn a.tmps).run P w' = .ok v w'∧∃d,Ending.returned v=Ending.returned d∧∃u h' c',WF w' h' c'∧Ext w h c w' h' c'∧dx w' h' c' u d∧k u h'=some r:=by
  intro hk
  obtain ⟨vs,ds,g1,g2,g3,g4⟩:=Td T at'.iG _ hk
  obtain ⟨u,h',c2,k1,k2,k3,k4⟩:=finishK_sound at'.iG.wf g2 at'.ext hlen (by simp[g3,hr]) g1
  refine ⟨at'.defers,_,?_,_,rfl,u,h',c2,k1,k2,k3,k4⟩
  unfold results
  simp only[Sem.run_bind,Array.mapM_eq_mapM_toList,map_eq_pure_bind,Sem.run_pure]
  refine (congrArg (fun z:Result (List Value)=>(z.andThen fun a w'=>Result.ok a.toArray w').andThen fun a w'=>Result.ok (if h:a.size=1 then a[0]else Value.tuple a) w') g4).trans ?_
  simp
 cases e with
 | normal=>exact fin ui
 | ret=>exact fin ui
 | exit i=>cases ui
 | goto l=>cases ui
end
inductive fj where
 | undef|ir|cx|fC|pz|dJ|iface
 | SW (t:Nat) (k:IntKind) (n:Int)
 | int (k:IntKind)|bool|str
 | ptr (i o:Nat)
 | sl (T:Ty)|Yn (T:Ty) (i:Nat)
 | row (i:Nat)
 | map (i:Nat)
 | fn (f:Nat)
 deriving DecidableEq
def fj.den:fj→Type
 | .int _=>Int
 | .bool=>Bool
 | .str=>ag
 | .sl T=>List T.den
 | .Yn T _=>List T.den
 | .row _=>Nat
 | _=>Unit
def fj.enc:(p:fj)→p.den→V
 | .undef,_ => .undef
 | .ir,_ => .ir
 | .cx,_ => .cx
 | .fC,_ => .fC
 | .pz,_ => .pz
 | .dJ,_ => .dJ
 | .iface,_ => .iface
 | .SW t k n,_ => .SW t k n
 | .int k,(n:Int) => .int k n
 | .bool,(b:Bool) => .bool b
 | .str,(s:ag) => .str s
 | .ptr i o,_ => .ptr i o
 | .sl T,(l:List T.den) => .sl T l .no
 | .Yn T i,(l:List T.den) => .sl T l (.own i)
 | .row i,(n:Nat) => .row i n
 | .map i,_ => .map i
 | .fn f,_ => .func f [] []
def decIx (k:IntKind):V→Option Int | .int k' n=>if k'=k then some n else none|_=>none
def decBx:V→Option Bool | .bool b=>some b|_=>none
def decSx:V→Option ag | .str s=>some s|_=>none
def decLx (T:Ty):V→Option (List T.den) | .sl T' l .no=>if h:T'=T then some (h▸l)else none|_=>none
def decOx (T:Ty) (i:Nat):V→Option (List T.den) | .sl T' l (.own j)=>if h:T'=T then (if j=i then some (h▸l)else none)else none|_=>none
def decRx (i:Nat):V→Option Nat | .row j n=>if j=i then some n else none|_=>none
def decPx (i o:Nat):V→Option Unit | .ptr j q=>if j=i∧q=o then some ()else none|_=>none
def decMx (i:Nat):V→Option Unit | .map j=>if j=i then some ()else none|_=>none
def decFx (f:Nat):V→Option Unit | .func g [] []=>if g=f then some ()else none|_=>none
def decUx:V→Option Unit | .undef=>some ()|_=>none
def decNp:V→Option Unit | .ir=>some ()|_=>none
def decNs:V→Option Unit | .cx=>some ()|_=>none
def decNf:V→Option Unit | .fC=>some ()|_=>none
def decNm:V→Option Unit | .pz=>some ()|_=>none
def decNi:V→Option Unit | .dJ=>some ()|_=>none
def decIf:V→Option Unit | .iface=>some ()|_=>none
def decIi (t:Nat) (k:IntKind) (n:Int):V→Option Unit | .SW t' k' n'=>if t'=t∧k'=k∧n'=n then some ()else none|_=>none
theorem decIx_eq {k:IntKind} {v:V} {x:Int} (h:decIx k v=some x):v = .int k x:=by
 unfold decIx at h
 split at h
 ·split at h
  ·rename_i e; subst e; cases h; rfl
  ·cases h
 ·cases h
theorem decBx_eq {v:V} {x:Bool} (h:decBx v=some x):v = .bool x:=by unfold decBx at h; split at h <;> first|(cases h; rfl)|cases h
theorem decSx_eq {v:V} {x:ag} (h:decSx v=some x):v = .str x:=by unfold decSx at h; split at h <;> first|(cases h; rfl)|cases h
theorem decLx_eq {T:Ty} {v:V} {x:List T.den} (h:decLx T v=some x):v = .sl T x .no:=by
 unfold decLx at h
 split at h
 ·split at h
  ·rename_i e; subst e; cases h; rfl
  ·cases h
 ·cases h
theorem decOx_eq {T:Ty} {i:Nat} {v:V} {x:List T.den} (h:decOx T i v=some x):v = .sl T x (.own i):=by
 unfold decOx at h
 split at h
 ·split at h
  ·rename_i e
   subst e
   split at h
   ·rename_i e; subst e; cases h; rfl
   ·cases h
  ·cases h
 ·cases h
theorem decRx_eq {i:Nat} {v:V} {x:Nat} (h:decRx i v=some x):v = .row i x:=by
 unfold decRx at h
 split at h
 ·split at h
  ·rename_i e; subst e; cases h; rfl
  ·cases h
 ·cases h
theorem decPx_eq {i o:Nat} {v:V} {x:Unit} (h:decPx i o v=some x):v = .ptr i o:=by
 unfold decPx at h
 split at h
 ·split at h
  ·rename_i e; obtain ⟨rfl,rfl⟩:=e; rfl
  ·cases h
 ·cases h
theorem decMx_eq {i:Nat} {v:V} {x:Unit} (h:decMx i v=some x):v = .map i:=by
 unfold decMx at h
 split at h
 ·split at h
  ·rename_i e; subst e; rfl
  ·cases h
 ·cases h
theorem decFx_eq {f:Nat} {v:V} {x:Unit} (h:decFx f v=some x):v = .func f [] []:=by
 unfold decFx at h
 split at h
 ·split at h
  ·rename_i e; subst e; rfl
  ·cases h
 ·cases h
theorem decUx_eq {v:V} {x:Unit} (h:decUx v=some x):v = .undef:=by unfold decUx at h; split at h <;> first|rfl|cases h
theorem decNp_eq {v:V} {x:Unit} (h:decNp v=some x):v = .ir:=by unfold decNp at h; split at h <;> first|rfl|cases h
theorem decNs_eq {v:V} {x:Unit} (h:decNs v=some x):v = .cx:=by unfold decNs at h; split at h <;> first|rfl|cases h
theorem decNf_eq {v:V} {x:Unit} (h:decNf v=some x):v = .fC:=by unfold decNf at h; split at h <;> first|rfl|cases h
theorem decNm_eq {v:V} {x:Unit} (h:decNm v=some x):v = .pz:=by unfold decNm at h; split at h <;> first|rfl|cases h
theorem decIf_eq {v:V} {x:Unit} (h:decIf v=some x):v = .iface:=by unfold decIf at h; split at h <;> first|rfl|cases h
theorem decIi_eq {t:Nat} {k:IntKind} {n:Int} {v:V} {x:Unit} (h:decIi t k n v=some x):v = .SW t k n:=by
 unfold decIi at h
 split at h
 ·split at h
  ·rename_i e; obtain ⟨rfl,rfl,rfl⟩:=e; rfl
  ·cases h
 ·cases h
theorem decNi_eq {v:V} {x:Unit} (h:decNi v=some x):v = .dJ:=by unfold decNi at h; split at h <;> first|rfl|cases h
def fj.dec:(p:fj)→V→Option p.den
 | .undef=>decUx
 | .ir=>decNp
 | .cx=>decNs
 | .fC=>decNf
 | .pz=>decNm
 | .dJ=>decNi
 | .iface=>decIf
 | .SW t k n=>decIi t k n
 | .int k=>decIx k
 | .bool=>decBx
 | .str=>decSx
 | .ptr i o=>decPx i o
 | .sl T=>decLx T
 | .Yn T i=>decOx T i
 | .row i=>decRx i
 | .map i=>decMx i
 | .fn f=>decFx f
theorem fj.Te (p:fj) {v:V} {x:p.den} (h:p.dec v=some x):v=p.enc x:=by
 cases p
 ·exact decUx_eq h
 ·exact decNp_eq h
 ·exact decNs_eq h
 ·exact decNf_eq h
 ·exact decNm_eq h
 ·exact decNi_eq h
 ·exact decIf_eq h
 ·exact decIi_eq h
 ·exact decIx_eq h
 ·exact decBx_eq h
 ·exact decSx_eq h
 ·exact decPx_eq h
 ·exact decLx_eq h
 ·exact decOx_eq h
 ·exact decRx_eq h
 ·exact decMx_eq h
 ·exact decFx_eq h
def fj.cD:List fj→Type
 | []=>Unit
 | p::ps=>p.den×fj.cD ps
def fj.fp:(ps:List fj)→fj.cD ps→List V
 | [],_ => []
 | p::ps,(x:p.den×fj.cD ps)=>p.enc x.1::fj.fp ps x.2
def both {α β:Type}:Option α→Option β→Option (α×β)
 | some x,some y=>some (x,y)
 | _,_=>none
theorem Yo {α β:Type} {a:Option α} {b:Option β} {z:α×β} (h:both a b=some z):a=some z.1∧b=some z.2:=by
 cases a <;> cases b <;> cases h
 exact ⟨rfl,rfl⟩
def fj.MC:(ps:List fj)→List V→Option (fj.cD ps)
 | [], []=>some ()
 | [],_::_=>none
 | _::_, []=>none
 | p::ps,v::vs=>both (p.dec v) (fj.MC ps vs)
theorem fj.xn:∀(ps:List fj) {vs:List V} {x:fj.cD ps},fj.MC ps vs=some x→vs=fj.fp ps x
 | [], [],_,_=>rfl
 | [],_::_,_,h=>by cases h
 | _::_, [],_,h=>by cases h
 | p::ps,v::vs,x,h=>by
  obtain ⟨h1,h2⟩:=Yo (a:=p.dec v) (b:=fj.MC ps vs) h
  show v::vs=p.enc x.1::fj.fp ps x.2
  rw[←fj.Te p h1,←fj.xn ps h2]
inductive cY where
 | leaf (l:fj)
 | agg (ps:List fj)
 | func (f:Nat) (a b:List fj)
def cY.den:cY→Type
 | .leaf l=>l.den
 | .agg ps=>fj.cD ps
 | .func _ a b=>fj.cD a×fj.cD b
def cY.enc:(p:cY)→p.den→V
 | .leaf l,x=>l.enc x
 | .agg ps,x => .agg (fj.fp ps x)
 | .func f a b,(x:fj.cD a×fj.cD b) => .func f (fj.fp a x.1) (fj.fp b x.2)
def decAx (ps:List fj):V→Option (fj.cD ps) | .agg cs=>fj.MC ps cs|_=>none
def decFnx (f:Nat) (a b:List fj):V→Option (fj.cD a×fj.cD b) | .func g x y=>if g=f then both (fj.MC a x) (fj.MC b y)else none|_=>none
def cY.dec:(p:cY)→V→Option p.den
 | .leaf l=>l.dec
 | .agg ps=>decAx ps
 | .func f a b=>decFnx f a b
theorem cY.Te (p:cY) {v:V} {x:p.den} (h:p.dec v=some x):v=p.enc x:=by
 cases p with
 | leaf l=>exact fj.Te l h
 | agg ps =>
  replace h:decAx ps v=some x:=h
  unfold decAx at h
  split at h
  ·rename_i cs
   show V.agg cs = .agg (fj.fp ps x)
   rw[←fj.xn ps h]
  ·cases h
 | func f a b =>
  replace h:decFnx f a b v=some x:=h
  unfold decFnx at h
  split at h
  ·split at h
   ·rename_i e
    subst e
    obtain ⟨h1,h2⟩:=Yo h
    rename_i g p q
    show V.func g p q = .func g (fj.fp a x.1) (fj.fp b x.2)
    rw[←fj.xn a h1,←fj.xn b h2]
   ·cases h
  ·cases h
def cY.cD:List cY→Type
 | []=>Unit
 | p::ps=>p.den×cY.cD ps
def cY.fp:(ps:List cY)→cY.cD ps→List V
 | [],_ => []
 | p::ps,(x:p.den×cY.cD ps)=>p.enc x.1::cY.fp ps x.2
def cY.MC:(ps:List cY)→List V→Option (cY.cD ps)
 | [], []=>some ()
 | [],_::_=>none
 | _::_, []=>none
 | p::ps,v::vs=>both (p.dec v) (cY.MC ps vs)
theorem cY.xn:∀(ps:List cY) {vs:List V} {x:cY.cD ps},cY.MC ps vs=some x→vs=cY.fp ps x
 | [], [],_,_=>rfl
 | [],_::_,_,h=>by cases h
 | _::_, [],_,h=>by cases h
 | p::ps,v::vs,x,h=>by
  obtain ⟨h1,h2⟩:=Yo (a:=p.dec v) (b:=cY.MC ps vs) h
  show v::vs=p.enc x.1::cY.fp ps x.2
  rw[←cY.Te p h1,←cY.xn ps h2]
inductive aY where
 | free|dead|tok|iter
 | cells (ps:List fj)
 | row (T:Ty)
 | mE (p:fj)
 | Aj (K T:Ty)
def aY.den:aY→Type
 | .cells ps=>fj.cD ps
 | .row T=>List T.den
 | .mE p=>p.den
 | .Aj K T=>List (K.den×T.den)
 | .iter=>ag×Nat
 | _=>Unit
def aY.enc:(p:aY)→p.den→cm
 | .free,_ => .free
 | .dead,_ => .dead
 | .tok,_ => .tok
 | .iter,x => .iter (Prod.fst (α:=ag) (β:=Nat) x) (Prod.snd (α:=ag) (β:=Nat) x)
 | .cells ps,x => .cells (fj.fp ps x)
 | .row T,x => .row T x
 | .mE p,x => .mE (p.enc x)
 | .Aj K T,x => .Aj K T x
def decBl (p:fj):cm→Option p.den | .mE v=>p.dec v|_=>none
def decCx (ps:List fj):cm→Option (fj.cD ps) | .cells cs=>fj.MC ps cs|_=>none
def decWx (T:Ty):cm→Option (List T.den) | .row T' l=>if h:T'=T then some (h▸l)else none|_=>none
def decAm (K T:Ty):cm→Option (List (K.den×T.den)) | .Aj K' T' l=>if h:K'=K∧T'=T then some (h.1▸h.2▸l)else none|_=>none
def decHf:cm→Option Unit | .free=>some ()|_=>none
def decHd:cm→Option Unit | .dead=>some ()|_=>none
def decHi:cm→Option (ag×Nat) | .iter s p=>some (s,p)|_=>none
def decHt:cm→Option Unit | .tok=>some ()|_=>none
def aY.dec:(p:aY)→cm→Option p.den
 | .free=>decHf
 | .dead=>decHd
 | .tok=>decHt
 | .iter=>decHi
 | .cells ps=>decCx ps
 | .row T=>decWx T
 | .mE p=>decBl p
 | .Aj K T=>decAm K T
theorem aY.Te (p:aY) {o:cm} {x:p.den} (h:p.dec o=some x):o=p.enc x:=by
 cases p with
 | free=>replace h:decHf o=some x:=h; unfold decHf at h; split at h <;> first|rfl|cases h
 | dead=>replace h:decHd o=some x:=h; unfold decHd at h; split at h <;> first|rfl|cases h
 | tok=>replace h:decHt o=some x:=h; unfold decHt at h; split at h <;> first|rfl|cases h
 | iter=>replace h:decHi o=some x:=h; unfold decHi at h; split at h <;> first|(cases h; rfl)|cases h
 | cells ps =>
  replace h:decCx ps o=some x:=h
  unfold decCx at h
  split at h
  ·rename_i cs
   show cm.cells cs = .cells (fj.fp ps x)
   rw[←fj.xn ps h]
  ·cases h
 | mE p =>
  replace h:decBl p o=some x:=h
  unfold decBl at h
  split at h
  ·rename_i v
   show cm.mE v = .mE (p.enc x)
   rw[←fj.Te p h]
  ·cases h
 | Aj K T =>
  replace h:decAm K T o=some x:=h
  unfold decAm at h
  split at h
  ·split at h
   ·rename_i e; obtain ⟨rfl,rfl⟩:=e; cases h; rfl
   ·cases h
  ·cases h
 | row T =>
  replace h:decWx T o=some x:=h
  unfold decWx at h
  split at h
  ·split at h
   ·rename_i e; subst e; cases h; rfl
   ·cases h
  ·cases h
def aY.cD:List aY→Type
 | []=>Unit
 | p::ps=>p.den×aY.cD ps
def aY.fp:(ps:List aY)→aY.cD ps→aM
 | [],_ => []
 | p::ps,(x:p.den×aY.cD ps)=>p.enc x.1::aY.fp ps x.2
def aY.MC:(ps:List aY)→List cm→Option (aY.cD ps)
 | [], []=>some ()
 | [],_::_=>none
 | _::_, []=>none
 | p::ps,v::vs=>both (p.dec v) (aY.MC ps vs)
theorem aY.xn:∀(ps:List aY) {vs:List cm} {x:aY.cD ps},aY.MC ps vs=some x→vs=aY.fp ps x
 | [], [],_,_=>rfl
 | [],_::_,_,h=>by cases h
 | _::_, [],_,h=>by cases h
 | p::ps,v::vs,x,h=>by
  obtain ⟨h1,h2⟩:=Yo (a:=p.dec v) (b:=aY.MC ps vs) h
  show v::vs=p.enc x.1::aY.fp ps x.2
  rw[←aY.Te p h1,←aY.xn ps h2]
theorem aY.encL_len:∀(ps:List aY) (x:aY.cD ps),(aY.fp ps x).length=ps.length
 | [],_=>rfl
 | p::ps,x=>by
  show (p.enc x.1::aY.fp ps x.2).length=_
  simp[aY.encL_len ps]
section
variable {R:Type} {P:Program} {tt:dd}
def aC (ps:List cY) (hs:List aY) (run:cY.cD ps→aY.cD hs→(V→aM→Option R)→Option R) (other:Spec R):Spec R:=fun args h k =>
 match cY.MC ps args,aY.MC hs h with
 | some x,some y=>run x y k
 | _,_=>other args h k
def av:Spec R:=fun _ _ _=>none
theorem fA (g:Nat):Spec.Ok P g (av:Spec R):=by intro vs h k r hk; cases hk
theorem specBy_ok {g:Nat} {ps:List cY} {hs:List aY} {run:cY.cD ps→aY.cD hs→(V→aM→Option R)→Option R} {other own:Spec R} (ho:Spec.Ok P g other) (hw:Spec.OkAt P g hs.length own)
  (hr:∀x y k,own (cY.fp ps x) (aY.fp hs y) k=run x y k):Spec.Ok P g (aC ps hs run other):=by
 intro vs h k r hk
 unfold aC at hk
 split at hk
 ·rename_i x y h1 h2
  rw[cY.xn ps h1,aY.xn hs h2]
  rw[←hr]at hk
  exact hw _ _ _ _ (aY.encL_len hs y) hk
 ·exact ho _ _ _ _ hk
def dR (ps:List cY) (hs:List aY) (run:cY.cD ps→aY.cD hs→(Ex→St→Option R)→Option R) (other:dE R):dE R:=fun st K =>
 match cY.MC ps st.fr,aY.MC hs st.hp with
 | some x,some y=>run x y K
 | _,_=>other st K
def lM:dE R:=fun _ _=>none
def ki (tt:dd) (E:Env R) (L:Nat→Option (Hint×dE R)) (m:Nat) (a:Code) (hint:Hint) (ls:dE R):Prop :=
 ∀st (K:Ex→St→Option R) r,ls st K=some r→∃n,Jk (kj tt E L m a) (norm m hint) n st (fun e st=>K e (trim m hint st))=some r
theorem fm {E:Env R} {L:Nat→Option (Hint×dE R)} {m:Nat} {a:Code} {hint:Hint}:ki tt E L m a hint lM:=by intro st K r hk; cases hk
theorem loopBy_ok {E:Env R} {L:Nat→Option (Hint×dE R)} {m:Nat} {a:Code} {hint:Hint} {ps:List cY} {hs:List aY} {run:cY.cD ps→aY.cD hs→(Ex→St→Option R)→Option R} {other:dE R} (ho:ki tt E L m a hint other)
  (hr:∀x y K,∃n,Jk (kj tt E L m a) (norm m hint) n ⟨cY.fp ps x,aY.fp hs y⟩ (fun e st=>K e (trim m hint st))=run x y K):ki tt E L m a hint (dR ps hs run other):=by
 intro st K r hk
 obtain ⟨fr,hp⟩:=st
 unfold dR at hk
 simp only at hk
 split at hk
 ·rename_i x y h1 h2
  rw[cY.xn ps h1,aY.xn hs h2]
  obtain ⟨n,hn⟩:=hr x y K
  exact ⟨n,by rw[hn]; exact hk⟩
 ·exact ho _ _ _ hk
def bm (f:Func):Code:=f.body.getD .skip
theorem gR {E:Env R} {L:Nat→Option (Hint×dE R)} {m:Nat} {l:List Code} (n:Nat) (hn:l.length=n) (h:∀i,i<n→ji tt E L m (l.getD i .skip)):∀a∈l,ji tt E L m a:=by
 intro a ha
 obtain ⟨i,hi,rfl⟩:=List.mem_iff_getElem.1 ha
 have:=h i (by omega)
 simpa [List.getD,List.getElem?_eq_getElem hi]using this
theorem dH {E:Env R} {L:Nat→Option (Hint×dE R)} {m:Nat} {a:Code} {hint:Hint} {ls:dE R} (h:L (keyOf a)=some (hint,ls)) (hs:ki tt E L m a hint ls):ji tt E L m a:=by
 intro hint' ls' hl
 rw[h]at hl
 cases hl
 exact hs
def roundOf (tt:dd) (E:Env R) (L:Nat→Option (Hint×dE R)) (m:Nat) (a:Code) (hint:Hint) (st:St) (fc:St→Option R) (K:Ex→St→Option R):Option R :=
 kj tt E L m a st fun e xH=>match e with | .normal=>fc (norm m hint xH)|e=>K e (trim m hint xH)
theorem loopN_succ {E:Env R} {L:Nat→Option (Hint×dE R)} {m:Nat} {a:Code} {hint:Hint} {n:Nat} {st:St} {K:Ex→St→Option R} :
  Jk (kj tt E L m a) (norm m hint) (n+1) st (fun e st=>K e (trim m hint st))=roundOf tt E L m a hint st (fun st=>Jk (kj tt E L m a) (norm m hint) n st (fun e st=>K e (trim m hint st))) K:=by
 unfold roundOf
 simp only[Jk]
 congr 1
end
section
variable {P:Program} {tt:dd} {w:World} {h:aM} {c:jI}
theorem zero_rep:∀l:List Value,cC w h c (l.map ofConst) l
 | [] => .nil
 | v::l => .cons (WI v) (zero_rep l)
def zeroOf (i:TypeInfo):Option (Nat×List V×Bool):=i.zero.map fun z=>(z.cells.size,z.cells.toList.map ofConst,z.oneCell')
def MD (P:Program) (tt:dd) (t:Nat):Prop :=
 ∃i,P.info? t=some i∧i.size=(tt.at t).size∧i.bytes=(tt.at t).bytes∧zeroOf i=some ((tt.at t).size,(tt.at t).zero, !tt.isAgg t)
theorem MD.spec {t:Nat} (h:MD P tt t):∃i z,P.info? t=some i∧i.size=(tt.at t).size∧i.bytes=(tt.at t).bytes∧i.zero=some z∧z.cells.size=i.size ∧
  ∀(w:World) (h:aM) (c:jI),cC w h c (tt.at t).zero z.cells.toList:=by
 obtain ⟨i,h1,h2,h3,h4⟩:=h
 unfold zeroOf at h4
 cases hz:i.zero with
 | none=>rw[hz]at h4; cases h4
 | some z =>
  rw[hz]at h4
  simp only[Option.map_some,Option.some.injEq,Prod.mk.injEq]at h4
  refine ⟨i,z,h1,h2,h3,hz,by rw[h4.1,h2],fun w h c => ?_⟩
  rw[←h4.2.1]
  exact zero_rep _
theorem MD.one {t:Nat} (h:MD P tt t):∀i z,P.info? t=some i→i.zero=some z→z.oneCell' = !tt.isAgg t:=by
 intro i z hi hz
 obtain ⟨j,h1,h2,h3,h4⟩:=h
 rw[hi]at h1; cases h1
 unfold zeroOf at h4
 rw[hz]at h4
 simp only[Option.map_some,Option.some.injEq,Prod.mk.injEq]at h4
 exact h4.2.2
theorem u8s_of (h:(List.range tt.length).all (fun e=>match (tt.at e).ty with|some (.int .u8)=>Nat.beq e pg.u8|_=>true)=true):∀e,(tt.at e).ty=some (.int .u8)→e=pg.u8:=by
 intro e he
 by_cases hl:e<tt.length
 ·have:=List.all_eq_true.1 h e (by simpa using hl)
  rw[he]at this
  exact Nat.eq_of_beq_eq_true this
 ·have:tt.at e=TI.none:=by unfold dd.at; simp[List.getD,List.getElem?_eq_none (Nat.le_of_not_lt hl)]
  rw[this]at he; cases he
def bldOk (tt:dd) (t:Nat):Bool:=Nat.beq t pg.mE&&tt.ok t&&(match (tt.at t).zero with | [.ir, .cx]=>true|_=>false)
theorem blds_of (h:(List.range tt.length).all (fun t=>bif (tt.at t).mE then bldOk tt t else true)=true):∀t,(tt.at t).mE=true→t=pg.mE∧(tt.at t).zero = [.ir, .cx]∧tt.ok t=true:=by
 intro t ht
 by_cases hl:t<tt.length
 ·have:=List.all_eq_true.1 h t (by simpa using hl)
  rw[ht]at this
  simp only[cond_true,bldOk,Bool.and_eq_true]at this
  obtain ⟨⟨h1,h2⟩,h3⟩:=this
  refine ⟨Nat.eq_of_beq_eq_true h1,?_,h2⟩
  split at h3
  ·assumption
  ·cases h3
 ·have:tt.at t=TI.none:=by unfold dd.at; simp[List.getD,List.getElem?_eq_none (Nat.le_of_not_lt hl)]
  rw[this]at ht; cases ht
end
section
variable {P:Program} {tt:dd} {w:World} {h:aM} {c:jI}
def Scal (P:Program) (ty:TypeId) (z:V):Prop :=
 (∃k n,z = .int k n∧P.underlying ty=some (.int k))∨(∃s,z = .str s∧P.underlying ty=some .string)∨(∃b,z = .bool b∧P.underlying ty=some .bool)
theorem Rq {ty:TypeId} {z:V} (s:Scal P ty z) {xs:Array Value} {j:Nat} {x:Value} (hx:xs[j]? = some x):(part ty xs j).run P w = .ok x w:=by
 rcases s with ⟨k,n,_,hu⟩|⟨n,_,hu⟩|⟨n,_,hu⟩ <;> simp[part,Go.isAgg,run_underlying hu,hx]
theorem eqF (d:Nat) (xs ys:Array Value):∀(fs:List Field) (zs cs ds:List V) (j:Nat) (b:Bool),(∀i f z,fs[i]? = some f→zs[i]? = some z→f.name ≠ "_" ∧ f.offset=j+i∧Scal P f.type z)→fs.length=zs.length →
  fg zs cs=true→fg zs ds=true→lB cs ds=some b→(∀i v,cs[i]? = some v→∃x,xs[j+i]? = some x∧dx w h c v x)→(∀i v,ds[i]? = some v→∃x,ys[j+i]? = some x∧dx w h c v x) →
  (Op.eqFields (d+1) xs ys fs).run P w = .ok b w
 | [],zs,cs,ds,j,b,_,hl,hc,hd,he,_,_=>by
  have:zs = []:=List.eq_nil_of_length_eq_zero hl.symm
  subst this
  cases cs with
  | cons=>cases hc
  | nil =>
   cases ds with
   | cons=>cases hd
   | nil=>cases he; simp[Op.eqFields]
 | f::fs, [],_,_,_,_,_,hl,_,_,_,_,_=>by cases hl
 | f::fs,z::zs,cs,ds,j,b,hf,hl,hc,hd,he,hx,hy=>by
  obtain ⟨h1,h2,h3⟩:=hf 0 f z rfl rfl
  have hf':∀i g y,fs[i]? = some g→zs[i]? = some y→g.name ≠ "_" ∧ g.offset=(j+1)+i∧Scal P g.type y:=fun i g y hg hy=>by
   have:=hf (i+1) g y (by simpa using hg) (by simpa using hy)
   exact ⟨this.1,by omega,this.2.2⟩
  have hl':fs.length=zs.length:=by simpa using hl
  cases cs with
  | nil=>cases z <;> cases hc
  | cons c0 cs =>
   cases ds with
   | nil=>cases z <;> cases hd
   | cons d0 ds =>
    obtain ⟨x,hx0,rx⟩:=hx 0 c0 rfl
    obtain ⟨y,hy0,ry⟩:=hy 0 d0 rfl
    have hx':∀i v,cs[i]? = some v→∃x,xs[(j+1)+i]? = some x∧dx w h c v x:=fun i v hv=>by
     obtain ⟨x,q1,q2⟩:=hx (i+1) v (by simpa using hv)
     exact ⟨x,by rw[←q1]; congr 1; omega,q2⟩
    have hy':∀i v,ds[i]? = some v→∃x,ys[(j+1)+i]? = some x∧dx w h c v x:=fun i v hv=>by
     obtain ⟨x,q1,q2⟩:=hy (i+1) v (by simpa using hv)
     exact ⟨x,by rw[←q1]; congr 1; omega,q2⟩
    have p1:=Rq (w:=w) h3 hx0
    have p2:=Rq (w:=w) h3 hy0
    have fin:∀(r:Bool),(Op.equalIn (d+1) f.type x y).run P w = .ok r w→∀b',lB cs ds=some b'→fg zs cs=true→fg zs ds=true→b=(r&&b')→(Op.eqFields (d+1) xs ys (f::fs)).run P w = .ok b w:=by
     intro r hr b' ph kc kd hb
     subst hb
     have ih:=eqF d xs ys fs zs cs ds (j+1) b' hf' hl' kc kd ph hx' hy'
     simp only[Op.eqFields,h1,ne_eq,not_false_eq_true,if_true,Sem.run_bind,h2,Nat.add_zero,p1,p2,Result.andThen_ok,hr]
     simp only[Nat.add_zero]at p1 p2
     simp only[p1,p2,Result.andThen_ok,hr]
     cases r with
     | true=>simpa using ih
     | false=>simp
    rcases h3 with ⟨k,n,rfl,hu⟩|⟨s,rfl,hu⟩|⟨q,rfl,hu⟩
    ·cases c0 with
     | int k1 n1 =>
      cases d0 with
      | int k2 n2 =>
       simp only[fg,Bool.and_eq_true,decide_eq_true_eq]at hc hd
       obtain ⟨rfl,hc⟩:=hc
       obtain ⟨rfl,hd⟩:=hd
       cases rx
       cases ry
       simp only[lB,if_true]at he
       split at he
       ·rename_i b' ph
        cases he
        exact fin _ (run_equalIn_int w d _ _ _ _ _ hu) b' ph hc hd rfl
       ·cases he
      | _=>simp[fg]at hd
     | _=>simp[fg]at hc
    ·cases c0 with
     | str s1 =>
      cases d0 with
      | str s2 =>
       simp only[fg]at hc hd
       cases rx
       cases ry
       simp only[lB]at he
       split at he
       ·rename_i b' ph
        cases he
        refine fin _ (run_equalIn_string w d _ _ _ hu) b' ph hc hd ?_
        congr 1
        simp only[ByteArray.toList_eq]
       ·cases he
      | _=>simp[fg]at hd
     | _=>simp[fg]at hc
    ·cases c0 with
     | bool s1 =>
      cases d0 with
      | bool s2 =>
       simp only[fg]at hc hd
       cases rx
       cases ry
       simp only[lB]at he
       split at he
       ·rename_i b' ph
        cases he
        exact fin _ (run_equalIn_bool' w d _ _ _ hu) b' ph hc hd rfl
       ·cases he
      | _=>simp[fg]at hd
     | _=>simp[fg]at hc
def FlatT (P:Program) (ty:TypeId) (g:List V):Prop :=
 P.underlying ty=some (.struct (P.fieldsOf ty))∧P.stoodInHeld ty=false∧(∃i,P.info? ty=some i)∧P.cellsOf ty=g.length∧(P.fieldsOf ty).toList.length=g.length ∧
  ∀i f z,(P.fieldsOf ty).toList[i]? = some f→g[i]? = some z→f.name ≠ "_" ∧ f.offset=0+i∧Scal P f.type z
def NestOk (P:Program):List Field→List (List V)→Nat→Prop
 | [], [],_=>True
 | f::fs,g::gs,j=>f.name ≠ "_" ∧ f.offset=j∧((∃z,g = [z]∧Scal P f.type z)∨FlatT P f.type g)∧NestOk P fs gs (j+g.length)
 | _,_,_=>False
theorem Pq:∀ {zs cs:List V},fg zs cs=true→cs.length=zs.length
 | [], [],_=>rfl
 | [],_::_,h=>by cases h
 | z::_, [],h=>by cases z <;> cases h
 | z::zs,c::cs,h=>by
  have:fg zs cs=true:=by
   cases z <;> cases c <;> simp[fg]at h
   ·exact h.2
   ·exact h
   ·exact h
  simp[Pq this]
theorem J7:∀ {g zs cs:List V},fg (g++zs) cs=true→fg g (cs.take g.length)=true∧fg zs (cs.drop g.length)=true
 | [],zs,cs,h=>by simpa [fg]using h
 | z::g,zs, [],h=>by cases z <;> cases h
 | z::g,zs,c::cs,h=>by
  have key:fg (g++zs) cs=true:=by
   cases z <;> cases c <;> simp[fg]at h
   ·exact h.2
   ·exact h
   ·exact h
  obtain ⟨h1,h2⟩:=J7 key
  refine ⟨?_,by simpa using h2⟩
  simp only[List.length_cons,List.take_succ_cons]
  cases z <;> cases c <;> simp[fg]at h ⊢
  ·exact ⟨h.1,h1⟩
  ·exact h1
  ·exact h1
theorem EH:∀(n:Nat) {cs ds:List V} {b:Bool},lB cs ds=some b→n≤cs.length→∃b1 b2,lB (cs.take n) (ds.take n)=some b1∧lB (cs.drop n) (ds.drop n)=some b2∧b=(b1&&b2)
 | 0,cs,ds,b,h,_=>⟨true,b,by simp[lB],by simpa using h,by simp⟩
 | n+1, [],_,_,_,hn=>by simp at hn
 | n+1,c::cs, [],b,h,_=>by cases c <;> cases h
 | n+1,c::cs,d::ds,b,h,hn=>by
  have hn':n≤cs.length:=by simpa using hn
  simp only[List.take_succ_cons,List.drop_succ_cons]
  cases c <;> cases d <;> simp only[lB]at h ⊢ <;> try (first|cases h)
  ·split at h
   ·rename_i e
    rw[if_pos e]
    split at h
    ·rename_i r hr
     cases h
     obtain ⟨b1,b2,h1,h2,h3⟩:=EH n hr hn'
     rw[h1]
     exact ⟨_,b2,rfl,h2,by rw[h3,Bool.and_assoc]⟩
    ·cases h
   ·cases h
  ·split at h
   ·rename_i r hr
    cases h
    obtain ⟨b1,b2,h1,h2,h3⟩:=EH n hr hn'
    rw[h1]
    exact ⟨_,b2,rfl,h2,by rw[h3,Bool.and_assoc]⟩
   ·cases h
  ·split at h
   ·rename_i r hr
    cases h
    obtain ⟨b1,b2,h1,h2,h3⟩:=EH n hr hn'
    rw[h1]
    exact ⟨_,b2,rfl,h2,by rw[h3,Bool.and_assoc]⟩
   ·cases h
theorem flat_part {ty:TypeId} {g:List V} (s:FlatT P ty g) {xs:Array Value} {j:Nat}:(part ty xs j).run P w = .ok (.agg (xs.extract j (j+g.length))) w:=by
 obtain ⟨h1,_,⟨i,h3⟩,h4,_⟩:=s
 have hs:(sizeOf ty).run P w = .ok g.length w:=by
  have:P.cellsOf ty=i.size:=by simp[Program.cellsOf,h3]
  rw[←h4,this]
  simp[sizeOf,typeInfo,h3]
 simp[part,Go.isAgg,run_underlying h1,hs]
theorem eqG (d:Nat) (xs ys:Array Value):∀(fs:List Field) (gs:List (List V)) (cs ds:List V) (j:Nat) (b:Bool),NestOk P fs gs j→fg gs.flatten cs=true→fg gs.flatten ds=true→lB cs ds=some b →
  (∀i v,cs[i]? = some v→∃x,xs[j+i]? = some x∧dx w h c v x)→(∀i v,ds[i]? = some v→∃x,ys[j+i]? = some x∧dx w h c v x)→(Op.eqFields (d+2) xs ys fs).run P w = .ok b w
 | [], [],cs,ds,j,b,_,hc,hd,he,_,_=>by
  cases cs with
  | cons=>cases hc
  | nil =>
   cases ds with
   | cons=>cases hd
   | nil=>cases he; simp[Op.eqFields]
 | [],_::_,_,_,_,_,hn,_,_,_,_,_=>by cases hn
 | _::_, [],_,_,_,_,hn,_,_,_,_,_=>by cases hn
 | f::fs,g::gs,cs,ds,j,b,hn,hc,hd,he,hx,hy=>by
  obtain ⟨n1,n2,n3,n4⟩:=hn
  rw[List.flatten_cons]at hc hd
  obtain ⟨c1,c2⟩:=J7 hc
  obtain ⟨d1,d2⟩:=J7 hd
  have lc:=Pq hc
  have ld:=Pq hd
  rw[List.length_append]at lc ld
  obtain ⟨b1,b2,e1,e2,rfl⟩:=EH g.length he (by omega)
  have behind:∀ {cs:List V} {xs:Array Value},(∀i v,cs[i]? = some v→∃x,xs[j+i]? = some x∧dx w h c v x)→∀i v,(cs.drop g.length)[i]? = some v→∃x,xs[(j+g.length)+i]? = some x∧dx w h c v x:=by
   intro cs xs hx i v hv
   rw[List.getElem?_drop]at hv
   obtain ⟨x,q1,q2⟩:=hx _ v hv
   exact ⟨x,by rw[←q1]; congr 1; omega,q2⟩
  have ih:=eqG d xs ys fs gs _ _ (j+g.length) b2 n4 c2 d2 e2 (behind hx) (behind hy)
  -- what the field is
  have key:∃x y,(part f.type xs j).run P w = .ok x w∧(part f.type ys j).run P w = .ok y w∧(Op.equalIn (d+2) f.type x y).run P w = .ok b1 w:=by
   rcases n3 with ⟨z,rfl,hz⟩|hF
   ·-- one cell: the flat case, alone
    cases cs with
    | nil=>simp only[List.length_nil,List.length_cons]at lc; omega
    | cons c0 cs =>
     cases ds with
     | nil=>simp only[List.length_nil,List.length_cons]at ld; omega
     | cons d0 ds =>
      simp only[List.length_cons,List.length_nil,Nat.zero_add,List.take_succ_cons,List.take_zero]at c1 d1 e1
      obtain ⟨x,hx0,rx⟩:=hx 0 c0 rfl
      obtain ⟨y,hy0,ry⟩:=hy 0 d0 rfl
      rw[Nat.add_zero]at hx0 hy0
      refine ⟨x,y,Rq hz hx0,Rq hz hy0,?_⟩
      rcases hz with ⟨k,n,rfl,hu⟩|⟨s,rfl,hu⟩|⟨q,rfl,hu⟩
      ·cases c0 <;> simp[fg]at c1
       cases d0 <;> simp[fg]at d1
       subst c1 d1
       cases rx
       cases ry
       simp only[lB,if_true,Option.some.injEq]at e1
       subst e1
       rw[Bool.and_true]
       exact run_equalIn_int w (d+1) _ _ _ _ _ hu
      ·cases c0 <;> simp[fg]at c1
       cases d0 <;> simp[fg]at d1
       cases rx
       cases ry
       simp only[lB,Option.some.injEq]at e1
       subst e1
       rw[Bool.and_true]
       refine (run_equalIn_string w (d+1) f.type _ _ hu).trans ?_
       congr 1
       simp only[ByteArray.toList_eq]
      ·cases c0 <;> simp[fg]at c1
       cases d0 <;> simp[fg]at d1
       cases rx
       cases ry
       simp only[lB,Option.some.injEq]at e1
       subst e1
       rw[Bool.and_true]
       exact run_equalIn_bool' w (d+1) _ _ _ hu
   ·refine ⟨_,_,flat_part hF,flat_part hF,?_⟩
    obtain ⟨h1,h2,h3,h4,h5,h6⟩:=hF
    rw[run_equalIn_struct w (d+1) f.type _ _ h1 h2]
    have at0:∀ {cs:List V} {xs:Array Value},(∀i v,cs[i]? = some v→∃x,xs[j+i]? = some x∧dx w h c v x)→∀i v,(cs.take g.length)[i]? = some v→∃x,(xs.extract j (j+g.length))[0+i]? = some x∧dx w h c v x:=by
     intro cs xs hx i v hv
     have hi:i<g.length:=by
      have:=(List.getElem?_eq_some_iff.1 hv).1
      rw[List.length_take]at this
      omega
     rw[List.getElem?_take_of_lt hi]at hv
     obtain ⟨x,q1,q2⟩:=hx i v hv
     refine ⟨x,?_,q2⟩
     rw[Nat.zero_add,Array.getElem?_extract]
     have qE:j+i<xs.size:=(Array.getElem?_eq_some_iff.1 q1).1
     rw[if_pos (by omega),q1]
    exact eqF d _ _ _ _ _ _ 0 b1 h6 h5 c1 d1 e1 (at0 hx) (at0 hy)
  obtain ⟨x,y,p1,p2,hr⟩:=key
  simp only[Op.eqFields,n1,ne_eq,not_false_eq_true,if_true,Sem.run_bind,n2,p1,p2,Result.andThen_ok,hr]
  cases b1 with
  | true=>simpa using ih
  | false=>simp
def fldOf (e:TypeId) (i:Nat):Field:=⟨"x",e,i,false, "", "",0⟩
theorem Pr (d:Nat) (e:TypeId) (xs ys:Array Value):∀is:List Nat,Op.eqItems d e 1 xs ys is=Op.eqFields d xs ys (is.map (fldOf e))
 | []=>rfl
 | i::is=>by
  have ih:=Pr d e xs ys is
  have hn:("x" : String) ≠ "_" :=by decide
  simp only[Op.eqItems,List.map_cons,Op.eqFields,fldOf,Nat.mul_one,ih]
  simp only[hn,ne_eq,not_false_eq_true,if_true]
def EqArr (P:Program) (zero:List V) (t:Nat):Prop :=
 ∃e i,P.underlying t=some (.array zero.length e)∧P.info? e=some i∧P.cellsOf e=1∧∀z∈zero,Scal P e z
theorem eqArr_run {t:Nat} {zero cs ds:List V} (ha:EqArr P zero t) (d:Nat) {xs ys:Array Value} {b:Bool} (hc:fg zero cs=true) (hd:fg zero ds=true) (he:lB cs ds=some b)
  (hx:∀i v,cs[i]? = some v→∃x,xs[0+i]? = some x∧dx w h c v x) (hy:∀i v,ds[i]? = some v→∃x,ys[0+i]? = some x∧dx w h c v x):(Op.equalIn (d+2) t (.agg xs) (.agg ys)).run P w = .ok b w:=by
 obtain ⟨e,i,h1,h2,h3,h4⟩:=ha
 rw[run_equalIn_array w (d+1) xs ys h1 h2,h3,Pr]
 refine eqF d xs ys _ zero cs ds 0 b (fun j f z hf hz => ?_) (by simp) hc hd he hx hy
 rw[List.getElem?_map]at hf
 have hj:j<zero.length:=(List.getElem?_eq_some_iff.1 hz).1
 rw[List.getElem?_range hj,Option.map_some,Option.some.injEq]at hf
 subst hf
 exact ⟨show ("x" : String) ≠ "_" by decide,by simp[fldOf],h4 z (List.mem_of_getElem? hz)⟩
def Ps (P:Program) (tt:dd) (t:Nat):Prop :=
 P.eqGuardType P.depth t=false∧((P.underlying t=some (.struct (P.fieldsOf t))∧P.stoodInHeld t=false∧∃gs,gs.flatten=(tt.at t).zero∧NestOk P (P.fieldsOf t).toList gs 0)∨EqArr P (tt.at t).zero t)
def scalB (P:Program) (ty:TypeId):V→Bool
 | .int k _=>(match P.underlying ty with|some (.int k')=>decide (k'=k)|_=>false)
 | .str _=>(match P.underlying ty with|some .string=>true|_=>false)
 | .bool _=>(match P.underlying ty with|some .bool=>true|_=>false)
 | _=>false
theorem Tf {ty:TypeId} {z:V} (h:scalB P ty z=true):Scal P ty z:=by
 unfold scalB at h
 split at h
 ·split at h
  ·rename_i k n _ k' hu
   have e:k'=k:=by simpa using h
   subst e
   exact .inl ⟨_,_,rfl,hu⟩
  ·cases h
 ·split at h
  ·rename_i hu; exact .inr (.inl ⟨_,rfl,hu⟩)
  ·cases h
 ·split at h
  ·rename_i hu; exact .inr (.inr ⟨_,rfl,hu⟩)
  ·cases h
 ·cases h
def goodB (P:Program):List Field→List V→Nat→Bool
 | [], [],_=>true
 | f::fs,z::zs,j=>decide (f.name ≠ "_")&&decide (f.offset=j)&&scalB P f.type z&&goodB P fs zs (j+1)
 | _,_,_=>false
theorem Zy:∀(fs:List Field) (zs:List V) (j:Nat),goodB P fs zs j=true→fs.length=zs.length∧∀i f z,fs[i]? = some f→zs[i]? = some z→f.name ≠ "_" ∧ f.offset=j+i∧Scal P f.type z
 | [], [],_,_=>⟨rfl,fun i f z h=>by simp at h⟩
 | [],_::_,_,h=>by cases h
 | _::_, [],_,h=>by cases h
 | f::fs,z::zs,j,h=>by
  simp only[goodB,Bool.and_eq_true,decide_eq_true_eq]at h
  obtain ⟨⟨⟨h1,h2⟩,h3⟩,h4⟩:=h
  obtain ⟨g1,g2⟩:=Zy fs zs (j+1) h4
  refine ⟨by simp[g1],fun i g y hg hy => ?_⟩
  cases i with
  | zero =>
   simp at hg hy
   subst hg; subst hy
   exact ⟨h1,h2,Tf h3⟩
  | succ i =>
   obtain ⟨q1,q2,q3⟩:=g2 i g y (by simpa using hg) (by simpa using hy)
   exact ⟨q1,by omega,q3⟩
def flatB (P:Program) (ty:TypeId) (g:List V):Bool :=
 (match P.info? ty with|some _=>true|none=>false)&&Nat.beq (P.cellsOf ty) g.length && !P.stoodInHeld ty&&goodB P (P.fieldsOf ty).toList g 0
def goodN (P:Program):List Field→List V→Nat→Bool
 | [],zs,_=>zs.isEmpty
 | f::fs,zs,j =>
  decide (f.name ≠ "_")&&decide (f.offset=j) &&
   (match P.underlying f.type with
    | some (.struct fl)=>flatB P f.type (zs.take fl.size)&&goodN P fs (zs.drop fl.size) (j+fl.size)
    | _=>(match zs with|z::zr=>scalB P f.type z&&goodN P fs zr (j+1) | []=>false))
theorem Tg:∀(fs:List Field) (zs:List V) (j:Nat),goodN P fs zs j=true→∃gs:List (List V),gs.flatten=zs∧NestOk P fs gs j
 | [],zs,j,h=>⟨[],by simpa [goodN]using h.symm,trivial⟩
 | f::fs,zs,j,h=>by
  simp only[goodN,Bool.and_eq_true,decide_eq_true_eq]at h
  obtain ⟨⟨h1,h2⟩,h3⟩:=h
  split at h3
  ·rename_i fl hu
   rw[Bool.and_eq_true]at h3
   obtain ⟨g1,g2⟩:=h3
   have hfo:P.fieldsOf f.type=fl:=by simp[Program.fieldsOf,hu]
   obtain ⟨gs,e1,e2⟩:=Tg fs _ _ g2
   unfold flatB at g1
   simp only[Bool.and_eq_true,Bool.not_eq_true']at g1
   obtain ⟨⟨⟨k1,k2⟩,k3⟩,k4⟩:=g1
   obtain ⟨q1,q2⟩:=Zy _ _ _ k4
   have hlen:(zs.take fl.size).length=fl.size:=by rw[←q1,hfo]; simp
   refine ⟨zs.take fl.size::gs,by rw[List.flatten_cons,e1,List.take_append_drop],h1,h2, .inr ⟨by rw[hfo]; exact hu,k3,?_,Nat.eq_of_beq_eq_true k2,q1,q2⟩,by rw[hlen]; exact e2⟩
   cases hi:P.info? f.type with
   | none=>rw[hi]at k1; cases k1
   | some i=>exact ⟨i,rfl⟩
  ·split at h3
   ·rename_i z zr
    rw[Bool.and_eq_true]at h3
    obtain ⟨gs,e1,e2⟩:=Tg fs _ _ h3.2
    exact ⟨[z]::gs,by rw[List.flatten_cons,e1]; rfl,h1,h2, .inl ⟨z,rfl,Tf h3.1⟩,e2⟩
   ·cases h3
theorem Ps.of {t:Nat} (h1:P.underlying t=some (.struct (P.fieldsOf t))) (h2:P.stoodInHeld t=false) (h3:P.eqGuardType P.depth t=false) (h4:goodN P (P.fieldsOf t).toList (tt.at t).zero 0=true):Ps P tt t :=
 ⟨h3, .inl ⟨h1,h2,Tg _ _ _ h4⟩⟩
def arrB (P:Program) (e:TypeId) (zero:List V):Bool:=(match P.info? e with|some _=>true|none=>false)&&Nat.beq (P.cellsOf e) 1&&zero.all (scalB P e)
theorem Ps.ofArr {t e:Nat} (h1:P.underlying t=some (.array (tt.at t).zero.length e)) (h3:P.eqGuardType P.depth t=false) (h4:arrB P e (tt.at t).zero=true):Ps P tt t:=by
 unfold arrB at h4
 simp only[Bool.and_eq_true]at h4
 obtain ⟨⟨g1,g2⟩,g3⟩:=h4
 refine ⟨h3, .inr ?_⟩
 cases hi:P.info? e with
 | none=>rw[hi]at g1; cases g1
 | some i=>exact ⟨e,i,h1,hi,Nat.eq_of_beq_eq_true g2,fun z hz=>Tf (List.all_eq_true.1 g3 z hz)⟩
theorem eqOk_eq {i:TI} {a b:List V} (h:eqOk i a b=true):i.eq=true:=by
 unfold eqOk at h
 simp only[Bool.and_eq_true]at h
 exact h.1.1
theorem eqs_flat {t:Nat} (e:Ps P tt t) {cs ds:List V} {xs ys:Array Value} {b:Bool} (hk:eqOk (tt.at t) cs ds=true) (rx:cC w h c cs xs.toList) (ry:cC w h c ds ys.toList) (hb:lB cs ds=some b) :
  P.eqGuardType P.depth t=false∧(Op.equalIn 10000 t (.agg xs) (.agg ys)).run P w = .ok b w:=by
 obtain ⟨e3,e⟩:=e
 refine ⟨e3,?_⟩
 unfold eqOk at hk
 simp only[Bool.and_eq_true]at hk
 have get:∀ {cs:List V} {xs:Array Value},cC w h c cs xs.toList→∀i v,cs[i]? = some v→∃x,xs[0+i]? = some x∧dx w h c v x:=by
  intro cs xs r i v hv
  have hi:=(List.getElem?_eq_some_iff.1 hv).1
  have hl:i<xs.size:=by have:=r.1; simp at this; omega
  refine ⟨xs[i],by simp[hl],r.2 i v _ hv (by simp[hl])⟩
 rcases e with ⟨e1,e2,gs,e4,e5⟩|e
 ·rw[run_equalIn_struct w 9999 t xs ys e1 e2]
  exact eqG 9997 xs ys _ gs cs ds 0 b e5 (by rw[e4]; exact hk.1.2) (by rw[e4]; exact hk.2) hb (get rx) (get ry)
 ·exact eqArr_run e 9998 hk.1.2 hk.2 hb (get rx) (get ry)
end
section
variable {R:Type} {P:Program} {tt:dd}
mutual
def Json.depth:Json→Nat
 | ⟨_,_,_,_,l⟩=>Json.HL l+1
def Json.HL:List Json→Nat
 | []=>0
 | x::l=>max x.depth (Json.HL l)
end
mutual
def Raw.depth:Raw→Nat
 | ⟨_,_,_,_,l⟩=>Raw.HL l+1
def Raw.HL:List Raw→Nat
 | []=>0
 | x::l=>max x.depth (Raw.HL l)
end
def fT.fu (x:fT):Nat:=x.ao.natAbs+x.exp.natAbs
def Json.fu (x:Json):Nat:=x.text.length+x.names.length+x.items.length
def Raw.fu (x:Raw):Nat:=x.text.length+x.items.length
def Raw3.fu (x:Raw3):Nat:=x.kind.natAbs+x.ao.natAbs+x.exp.natAbs+x.text.length
def Fld.fu (x:Fld):Nat:=x.name.length
def Mail.fu (x:Mail):Nat:=x.topic.length+x.data.length
def Token.fu (x:Token):Nat:=x.text.length
def Stop.fu (x:Stop):Nat:=0
def Way.fu (x:Way):Nat:=0
def Order.fu (x:Order):Nat:=x.header.natAbs+x.bc.length+x.order.natAbs+x.update.natAbs+x.nodes.length+x.Ji.length
def Edge.fu (x:Edge):Nat:=0
def JZ.fu (x:JZ):Nat:=x.nodes.natAbs+x.Ji.length
def Sf.fu (x:Sf):Nat:=x.maker.length+x.serial.length+x.kind.length
def State.fu (x:State):Nat:=x.header.natAbs+x.dc.natAbs+x.bc.length+x.order.natAbs+x.update.natAbs+x.node.natAbs+x.seq.natAbs+x.accepted.natAbs
def Ctl.fu (x:Ctl):Nat:=x.bc.length+x.header.natAbs+x.order.natAbs+x.update.natAbs+x.dc.natAbs+x.seen.natAbs+x.path.length+x.seq.natAbs+x.rel.natAbs+x.pending.header.natAbs+x.pending.bc.length+x.pending.order.natAbs+x.pending.update.natAbs+x.pending.nodes.length+x.pending.Ji.length
def Op17.fu (x:Op17):Nat:=x.kind.natAbs+x.i.natAbs+x.k.natAbs+x.by_.natAbs+x.data.length
def Oc.fu (x:Oc):Nat:=x.header.natAbs+x.order.natAbs+x.update.natAbs+x.seq.natAbs+x.from_.natAbs+x.wy.natAbs+x.turns.length
def Ev16.fu (x:Ev16):Nat:=x.kind.natAbs+x.o.header.natAbs+x.o.order.natAbs+x.o.update.natAbs+x.o.seq.natAbs+x.o.from_.natAbs+x.o.wy.natAbs+x.o.turns.length+x.data.length
def Ev18.fu (x:Ev18):Nat:=x.kind.natAbs+x.n.natAbs+x.turns.length
def Arr3.fu (x:Arr3):Nat:=x.a.natAbs+x.b.natAbs+x.c.natAbs
def Xu.fu (x:Xu):Nat:=x.a.natAbs+x.b.natAbs
def Dec2.fu (x:Dec2):Nat:=x.a.ao.natAbs+x.a.exp.natAbs+x.b.ao.natAbs+x.b.exp.natAbs
def Post.fu (x:Post):Nat:=x.name.length+x.home.natAbs
def Job.fu (x:Job):Nat:=x.id.natAbs+x.target.natAbs+x.state.natAbs+x.bc.natAbs
def J0.fu (x:J0):Nat:=x.kind.natAbs+x.nums.length+x.text.length
theorem ME (rs:List Ty) (t:Nat):∃b,(tt.mode rs).at t = { tt.at t with rowy:=b }:=by
 unfold dd.mode dd.at
 simp only[List.getD,List.getElem?_map]
 cases tt[t]? with
 | none=>exact ⟨false,rfl⟩
 | some i=>exact ⟨_,rfl⟩
theorem mode_ok (rs:List Ty) (t:Nat):(tt.mode rs).ok t=tt.ok t:=by
 obtain ⟨b,h⟩:=ME (tt:=tt) rs t
 unfold dd.ok
 rw[h]
theorem AU.mode (T:AU P tt) (rs:List Ty):AU P (tt.mode rs) where
 und:=fun t=>by obtain ⟨b,h⟩:=ME (tt:=tt) rs t; rw[h]; exact T.und t
 info:=fun t ht=>by
  rw[mode_ok]at ht
  obtain ⟨b,h⟩:=ME (tt:=tt) rs t
  rw[h]
  exact T.info t ht
 eqs:=fun t w h c cs ds xs ys b hk=>by
  obtain ⟨b',h'⟩:=ME (tt:=tt) rs t
  rw[h']at hk
  exact T.eqs t w h c cs ds xs ys b hk
 u8s:=fun e he=>by
  obtain ⟨b,h⟩:=ME (tt:=tt) rs e
  rw[h]at he
  exact T.u8s e he
 blds:=fun t ht=>by
  obtain ⟨b,h⟩:=ME (tt:=tt) rs t
  rw[h]at ht
  rw[mode_ok,h]
  exact T.blds t ht
 ones:=fun t ht=>by
  rw[mode_ok]at ht
  obtain ⟨b,h⟩:=ME (tt:=tt) rs t
  have e:(tt.mode rs).isAgg t=tt.isAgg t:=by unfold dd.isAgg; rw[h]
  rw[e]
  exact T.ones t ht
theorem gd {D:Type} {E:Env R} {L:Nat→Option (Hint×dE R)} {m:Nat} {a:Code} {hint:Hint} (enc:D→St)
  (s:(Ex→St→Option R)→(D→Option R)→D→Option R) (A:(Ex→St→Option R)→Nat→D→Option R)
  (h0:∀K d,A K 0 d=none)
  (hB:∀K fc d,roundOf tt E L m a hint (enc d) fc K=s K (fun d=>fc (enc d)) d)
  (hA:∀K n d,A K (n+1) d=s K (A K n) d) (K:Ex→St→Option R) :
  ∀n d,Jk (kj tt E L m a) (norm m hint) n (enc d) (fun e st=>K e (trim m hint st))=A K n d
 | 0,d=>(h0 K d).symm
 | n+1,d=>by
  rw[loopN_succ,hB,hA]
  exact congrArg (fun q=>s K q d) (funext fun d=>gd enc s A h0 hB hA K n d)
theorem ei {D:Type} {E:Env R} {L:Nat→Option (Hint×dE R)} {m:Nat} {a:Code} {hint:Hint} {ps:List cY} {hs:List aY}
  {run:cY.cD ps→aY.cD hs→(Ex→St→Option R)→Option R} {other:dE R} {enc:D→St} {A:(Ex→St→Option R)→Nat→D→Option R}
  (ho:ki tt E L m a hint other)
  (tie:∀K n d,Jk (kj tt E L m a) (norm m hint) n (enc d) (fun e st=>K e (trim m hint st))=A K n d)
  (fuel:cY.cD ps→aY.cD hs→Nat) (dat:cY.cD ps→aY.cD hs→D)
  (henc:∀x y,(⟨cY.fp ps x,aY.fp hs y⟩:St)=enc (dat x y))
  (mX:∀x y K,run x y K=A K (fuel x y) (dat x y)):ki tt E L m a hint (dR ps hs run other) :=
 loopBy_ok ho fun x y K=>⟨fuel x y,by rw[henc,mX]; exact tie K _ _⟩
theorem Lg {g:Nat} {ps:List cY} {hs:List aY} {run:Nat→cY.cD ps→aY.cD hs→(V→aM→Option R)→Option R} {other:Spec R}
  (fuel:cY.cD ps→aY.cD hs→Nat) (ho:Spec.Ok P g other)
  (h:∀n,Spec.Ok P g (aC ps hs (run n) av)):Spec.Ok P g (aC ps hs (fun x y k=>run (fuel x y) x y k) other):=by
 intro vs hp k r hk
 unfold aC at hk
 split at hk
 ·rename_i x y h1 h2
  refine h (fuel x y) vs hp k r ?_
  unfold aC
  rw[h1,h2]
  exact hk
 ·exact ho _ _ _ _ hk
theorem inline_ok (T:AU P tt) (hm:P.follows .mixedOrders=true) {E:Env R} (hE:EOk P E) {g:Nat} {fn:Func} {code:Code} (uY:Bool) (hf:P.funcs[g]? = some fn) (hb:fn.body=some code)
  (hn:(fn.name == "runtime.NumGoroutine")=false) (hr:fn.results.size=fn.resultTypes.size):Spec.Ok P g (RO tt E (fun _=>none) uY fn code):=fun vs h k r hk =>
 Zx T hm hE hf hb hn hr h.length (fun a _ hint ls hL=>by cases hL) vs h k r rfl hk
theorem AX {g:Nat} {ps:List cY} {hs:List aY} {run:Nat→cY.cD ps→aY.cD hs→(V→aM→Option R)→Option R}
  (h0:∀x y k,run 0 x y k=none)
  (hs':∀n,Spec.Ok P g (aC ps hs (run n) av)→Spec.Ok P g (aC ps hs (run (n+1)) av)):∀n,Spec.Ok P g (aC ps hs (run n) av)
 | 0=>by
  intro vs hp k r hk
  unfold aC at hk
  split at hk
  ·rw[h0]at hk; cases hk
  ·cases hk
 | n+1=>hs' n (AX h0 hs' n)
theorem HM {g:Nat} {ps:List cY} {hs:List aY} {run run':cY.cD ps→aY.cD hs→(V→aM→Option R)→Option R} {other:Spec R}
  (h:Spec.Ok P g (aC ps hs run other)) (e:run'=run):Spec.Ok P g (aC ps hs run' other):=e▸h
end
abbrev gS (s:ag):List Int:=SX s
end Go.aq
end
