/-
  FleetTells: for every input whose bulk is at most 1048576 the law returns true, and each argument reads behind the call as it read before; part 3 of 9 of the proof: an interpreter of the model's code over typed data, proved sound; the functions that the law reaches, printed as Lean functions and tied; the plain law. Own texts laid one behind the other.
-/
import Derived.Calls
import Derived.Orders
import Derived.ChangeKeysEq
import Derived.Test.YtolnaonmpohciaaDoorFleetTellsB2
set_option linter.unusedSimpArgs false
set_option linter.unnecessarySimpa false
set_option linter.unusedVariables false
set_option linter.unusedSectionVars false
noncomputable section
namespace Go.ad
open Go.RowKit

section
variable {w w':World} {h h':ai} {c c':eT}

theorem lG {i:Nat}:∀ {cs:List V},i∈V.nv cs↔∃(j:Nat) (v:V),cs[j]? = some v∧i∈v.ids
 | []=>by simp[V.nv]
 | v::cs=>by
  simp only[V.nv,List.mem_append,lG (cs:=cs)]
  constructor
  ·rintro (h|⟨j,u,h1,h2⟩)
   ·exact ⟨0,v,rfl,h⟩
   ·exact ⟨j+1,u,h1,h2⟩
  ·rintro ⟨j,u,h1,h2⟩
   cases j with
   | zero=>simp at h1; subst h1; exact .inl h2
   | succ j=>exact .inr ⟨j,u,h1,h2⟩

theorem cd.uX {v:V} {d:Value} (r:cd w h c v d):∀i∈v.ids,Used h i:=by
 induction r with
 | undef v=>simp[V.ids]
 | int hn=>simp[V.ids]
 | bool b=>simp[V.ids]
 | str hl=>simp[V.ids]
 | gk=>simp[V.ids]
 | aI=>simp[V.ids]
 | fB=>simp[V.ids]
 | km=>simp[V.ids]
 | dd=>simp[V.ids]
 | iface t v=>simp[V.ids]
 | Lq hn=>simp[V.ids]
 | Fh b=>simp[V.ids]
 | ptr hi _=>simpa [V.ids]using hi
 | map hi _=>simpa [V.ids]using hi
 | row hi _ _=>simpa [V.ids]using hi
 | m0 hi _ _=>simpa [V.ids]using hi
 | nu hi _=>simpa [V.ids]using hi
 | lX f hc _ ih =>
  intro i hi
  simp only[V.ids]at hi
  obtain ⟨j,v,h1,h2⟩:=lG.1 hi
  exact ih j v h1 i h2
 | @sl T l t A cap f eQ lD hc hr vL fA ih =>
  intro i hi
  cases t with
  | no=>simp[V.ids]at hi
  | nil=>simp[V.ids]at hi
  | own j=>simp[V.ids]at hi; subst hi; exact (fA i rfl).1
 | Ku hn lD f hc _ ih =>
  intro i hi
  simp only[V.ids]at hi
  obtain ⟨j,v,h1,h2⟩:=lG.1 hi
  exact ih j v h1 i h2
 | @func f a b x y ha hb _ _ iha ihb =>
  intro i hi
  simp only[V.ids,List.mem_append]at hi
  rcases hi with hi|hi
  ·obtain ⟨j,v,h1,h2⟩:=lG.1 hi
   have hj:=(List.getElem?_eq_some_iff.1 h1).1
   exact iha j v _ h1 (Array.getElem?_eq_getElem (by omega)) i h2
  ·obtain ⟨j,v,h1,h2⟩:=lG.1 hi
   have hj:=(List.getElem?_eq_some_iff.1 h1).1
   exact ihb j v _ h1 (Array.getElem?_eq_getElem (by omega)) i h2
 | agg hl _ ih =>
  intro i hi
  simp only[V.ids]at hi
  obtain ⟨j,v,h1,h2⟩:=lG.1 hi
  have hj:=(List.getElem?_eq_some_iff.1 h1).1
  exact ih j v _ h1 (Array.getElem?_eq_getElem (by omega)) i h2
 | tuple hl _ ih =>
  intro i hi
  simp only[V.ids]at hi
  obtain ⟨j,v,h1,h2⟩:=lG.1 hi
  have hj:=(List.getElem?_eq_some_iff.1 h1).1
  exact ih j v _ h1 (Array.getElem?_eq_getElem (by omega)) i h2

theorem bl.uX {cs:List V} {ds:List Value} (r:bl w h c cs ds):∀i∈V.nv cs,Used h i:=by
 intro i hi
 obtain ⟨j,v,h1,h2⟩:=lG.1 hi
 have hj:=(List.getElem?_eq_some_iff.1 h1).1
 exact (r.2 j v _ h1 (List.getElem?_eq_getElem (by have:=r.1; omega))).uX i h2

theorem WF.uX (wf:WF w h c) (i:Nat):∀j∈(h.at i).ids,Used h j:=by
 intro j hj
 cases e:h.at i with
 | cells cs =>
  rw[e]at hj
  have ho:=wf.obj i (ai.dR rfl (by rw[e]; simp))
  rw[e]at ho
  obtain ⟨b,arr,el,_,_,r⟩:=ho
  exact r.uX j hj
 | qV v =>
  rw[e]at hj
  have ho:=wf.obj i (ai.dR rfl (by rw[e]; simp))
  rw[e]at ho
  obtain ⟨b,p,d,_,_,_,r⟩:=ho
  exact r.uX j hj
 | _=>rw[e]at hj; simp[aP.ids]at hj

theorem GF (wf:WF w h c):∀(n:Nat) (todo seen:List Nat),(∀i∈todo,Used h i)→(∀i∈seen,Used h i)→∀i∈reach h n todo seen,Used h i
 | 0,_,_,_,hs=>hs
 | n+1, [],_,_,hs=>hs
 | n+1,i::todo,seen,ht,hs=>by
  simp only[reach]
  split
  ·exact GF wf n _ _ (fun j hj=>ht j (by simp[hj])) hs
  ·refine GF wf n _ _ (fun j hj => ?_) (fun j hj => ?_)
   ·rcases List.mem_append.1 hj with hj|hj
    ·exact ht j (by simp[hj])
    ·exact wf.uX i j hj
   ·rcases List.mem_append.1 hj with hj|hj
    ·exact hs j hj
    ·simp at hj; subst hj; exact ht j (by simp)

theorem oF.lt (wf:WF w h c) {b x:Nat} (ho:oF h c b x):b<w.heap.size:=by
 obtain ⟨i,f,h1,h2,_⟩:=ho
 have hl:(h.at i).live:=by cases e:h.at i <;> rw[e]at h2 <;> simp_all [aP.from_,aP.live]
 exact (wf.obj i (ai.dR rfl (rh hl))).lt hl h1

theorem Vj {o:aP} (h:o.live) (f:Nat):∃g,o.from_ f=some g:=by cases o <;> simp_all [aP.from_,aP.live]

def Ht (h:ai) (c:eT) (ord:List Nat) (b x:Nat):Prop:=∃i∈ord,∃f,c.mX i=some b∧(h.at i).from_ (c.off i)=some f∧f≤x

def L5 (h:ai) (c:eT) (ord:List Nat):Qz:=⟨fun b x=>c.ext b x∨(oF h c b x∧¬Ht h c ord b x)⟩

theorem Ht.tp {ord:List Nat} {b x:Nat} (o:Ht h c ord b x):oF h c b x:=by obtain ⟨i,_,f,h1,h2,h3⟩:=o; exact ⟨i,f,h1,h2,h3⟩

theorem L6 {ord:List Nat}:∀b x,Fi h c b x→¬L5 h c ord b x:=by
 rintro b x hf (he|he)
 ·exact hf.2 he
 ·exact hf.1 he.1

theorem I0 (wf:WF w h c) {ord:List Nat} (DC:ord.Nodup):WF w (h.pick ord) (c.pick ord (L5 h c ord)):=by
 refine T4 wf DC L6 ?_ ?_
 ·rintro b x (he|he)
  ·exact wf.la b x he
  ·exact he.1.lt wf
 ·rintro b x ho (he|he)
  ·exact wf.uU b x (Ht.tp ho) he
  ·exact he.2 ho

theorem GG {ord:List Nat} {cs:List V} {ds:List Value} (r:bl w h c cs ds):bl w (h.pick ord) (c.pick ord (L5 h c ord)) (V.tP (tz ord) cs) ds :=
 r.kj (L4 L6)

theorem dn:∀(l:List (Nat×aP)) (h:ai),(ai.u9 h l).length=h.length
 | [],_=>rfl
 | (i,o)::l,h=>by simp[ai.u9,dn l]

theorem Bx {i:Nat}:∀(ord:List Nat) (os:List aP) (h:ai),i∉ord→ai.at (ai.u9 h (ord.zip os)) i=h.at i
 | [],_,_,_=>rfl
 | _::_, [],_,_=>rfl
 | a::ord,o::os,h,hn=>by
  simp only[List.zip_cons_cons,ai.u9]
  rw[Bx ord os _ (fun hm=>hn (by simp[hm]))]
  exact bm _ (fun e=>hn (by simp[e]))

theorem I1 {i:Nat}:∀(ord:List Nat) (os:List aP) (h:ai) (j:Nat) (o:aP),ord.Nodup→ord[j]? = some i→os[j]? = some o→i<h.length→ai.at (ai.u9 h (ord.zip os)) i=o
 | [],_,_,_,_,_,hj,_,_=>by simp at hj
 | _::_, [],_,_,_,_,_,ho,_=>by simp at ho
 | a::ord,p::os,h,j,o,DC,hj,ho,hi=>by
  simp only[List.zip_cons_cons,ai.u9]
  cases j with
  | zero =>
   simp at hj ho
   subst hj; subst ho
   rw[Bx ord os _ (by simpa using (List.nodup_cons.1 DC).1)]
   exact fT _ hi
  | succ j=>exact I1 ord os _ j o (List.nodup_cons.1 DC).2 (by simpa using hj) (by simpa using ho) (by simpa using hi)

theorem fp {a b:ai} {i:Nat} (hi:i<a.length):ai.at (a++b) i=ai.at a i:=by simp[ai.at,List.getD,List.getElem?_append_left hi]
theorem eP {a b:ai} {i:Nat} (hi:a.length≤i):ai.at (a++b) i=ai.at b (i - a.length):=by simp[ai.at,List.getD,List.getElem?_append_right hi]

theorem Hu {ord:List Nat} (DC:ord.Nodup) {i j:Nat} (e:ord[j]? = some i):tz ord i=some j:=by
 obtain ⟨hj,rfl⟩:=List.getElem?_eq_some_iff.1 e
 have hm:ord[j]∈ord:=List.getElem_mem hj
 have dH:ord.idxOf ord[j]<ord.length:=List.idxOf_lt_length_of_mem hm
 unfold tz
 simp only[dH,if_true]
 have hg:=List.getElem_idxOf dH
 have hp:=List.pairwise_iff_getElem.1 DC
 rcases Nat.lt_trichotomy (ord.idxOf ord[j]) j with hl|he|hl
 ·exact (hp _ _ dH hj hl hg).elim
 ·rw[he]
 ·exact (hp _ _ hj dH hl hg.symm).elim

theorem tY {ord:List Nat} {i:Nat} (h:i∉ord):tz ord i=none:=by
 cases e:tz ord i with
 | none=>rfl
 | some j=>exact (h (List.mem_of_getElem? (wy e))).elim

def eT.back (c:eT) (ord:List Nat) (n:Nat) (c':eT):eT :=
 ⟨fun i=>match tz ord i with|some j=>c'.mX j|none=>if i<n then c.mX i else c'.mX (i - n+ord.length),
  fun i=>match tz ord i with|some j=>c'.off j|none=>if i<n then c.off i else c'.off (i - n+ord.length),c.ext⟩

theorem xL {ord:List Nat} (DC:ord.Nodup) (dH:∀i∈ord,i<h.length) (hle:ord.length≤h'.length) (i:Nat) :
  (∃j,jY ord h.length j=i∧j<h'.length∧ai.at (h.back ord h') i=(h'.at j).kj (fun j=>some (jY ord h.length j))∧(c.back ord h.length c').mX i=c'.mX j∧(c.back ord h.length c').off i=c'.off j) ∨
  (i∉ord∧i<h.length∧ai.at (h.back ord h') i=h.at i∧(c.back ord h.length c').mX i=c.mX i∧(c.back ord h.length c').off i=c.off i) ∨
  ((h.back ord h').length≤i∧ai.at (h.back ord h') i = .dead):=by
 have hlen:(h.back ord h').length=h.length+(h'.length - ord.length):=by simp[ai.back,dn]
 by_cases hm:i∈ord
 ·obtain ⟨j,hj,e⟩:=List.mem_iff_getElem.1 hm
  have e':ord[j]? = some i:=by rw[List.getElem?_eq_getElem hj,e]
  have hi:=dH i hm
  refine .inl ⟨j,by simp[jY,hj,List.getD,e],by omega,?_,by simp[eT.back,Hu DC e'],by simp[eT.back,Hu DC e']⟩
  unfold ai.back
  simp only
  rw[fp (by rw[dn]; exact hi)]
  refine I1 ord _ h j _ DC e' ?_ hi
  have Oq:j<h'.length:=by omega
  simp[hj,ai.at,List.getD,List.getElem?_eq_getElem Oq]
 ·by_cases hi:i<h.length
  ·refine .inr (.inl ⟨hm,hi,?_,by simp[eT.back,tY hm,hi],by simp[eT.back,tY hm,hi]⟩)
   unfold ai.back
   simp only
   rw[fp (by rw[dn]; exact hi)]
   exact Bx ord _ h hm
  ·by_cases hb:i<(h.back ord h').length
   ·rw[hlen]at hb
    refine .inl ⟨i - h.length+ord.length,?_,by omega,?_,by simp[eT.back,tY hm,hi],by simp[eT.back,tY hm,hi]⟩
    ·have:¬(i - h.length+ord.length<ord.length):=by omega
     simp only[jY,this,if_false]
     omega
    ·unfold ai.back
     simp only
     rw[eP (by rw[dn]; omega),dn]
     have k9:i - h.length+ord.length<h'.length:=by omega
     have hq:ord.length+(i - h.length)=i - h.length+ord.length:=by omega
     simp[ai.at,List.getD,hq,List.getElem?_eq_getElem k9]
   ·refine .inr (.inr ⟨by omega,?_⟩)
    simp[ai.at,List.getD,List.getElem?_eq_none (Nat.le_of_not_lt hb)]

theorem Lf {ord:List Nat} (DC:ord.Nodup) (dH:∀i∈ord,i<h.length) (hle:ord.length≤h'.length) (j:Nat) :
  ai.at (h.back ord h') (jY ord h.length j)=(h'.at j).kj (fun j=>some (jY ord h.length j))∧(c.back ord h.length c').mX (jY ord h.length j)=c'.mX j∧(c.back ord h.length c').off (jY ord h.length j)=c'.off j:=by
 have hlen:(h.back ord h').length=h.length+(h'.length - ord.length):=by simp[ai.back,dn]
 by_cases hj:j<ord.length
 ·have hb:jY ord h.length j=ord[j]:=by simp[jY,hj,List.getD]
  have e':ord[j]? = some ord[j]:=List.getElem?_eq_getElem hj
  have hi:=dH _ (List.getElem_mem hj)
  rw[hb]
  refine ⟨?_,by simp[eT.back,Hu DC e'],by simp[eT.back,Hu DC e']⟩
  unfold ai.back
  simp only
  rw[fp (by rw[dn]; exact hi)]
  refine I1 ord _ h j _ DC e' ?_ hi
  have Oq:j<h'.length:=by omega
  simp[hj,ai.at,List.getD,List.getElem?_eq_getElem Oq]
 ·have hb:jY ord h.length j=h.length+(j - ord.length):=by simp[jY,hj]
  have hm:h.length+(j - ord.length)∉ord:=fun hm=>by have:=dH _ hm; omega
  have hn:¬(h.length+(j - ord.length)<h.length):=by omega
  have hs:h.length+(j - ord.length) - h.length+ord.length=j:=by omega
  rw[hb]
  refine ⟨?_,by simp only[eT.back,tY hm,hn,if_false,hs],by simp only[eT.back,tY hm,hn,if_false,hs]⟩
  unfold ai.back
  simp only
  rw[eP (by rw[dn]; omega),dn]
  have hq:h.length+(j - ord.length) - h.length=j - ord.length:=by omega
  have WH:ord.length+(j - ord.length)=j:=by omega
  rw[hq]
  by_cases Oq:j<h'.length
  ·simp[ai.at,List.getD,WH,List.getElem?_eq_getElem Oq]
  ·simp[ai.at,List.getD,WH,List.getElem?_eq_none (Nat.le_of_not_lt Oq),aP.kj]

theorem Vk {ρ:Nat→Option Nat} {o o':aP}:(o.kj ρ).dV o'↔o.dV o':=by cases o <;> cases o' <;> simp[aP.kj,aP.dV,o9]
theorem OA {ρ:Nat→Option Nat} {o o':aP}:o.dV (o'.kj ρ)↔o.dV o':=by cases o <;> cases o' <;> simp[aP.kj,aP.dV,o9]
theorem Ac {o:aP} (h:o.live) (hm:∀K T l,o ≠ .qW K T l∨True):o.dV o:=by cases o <;> simp_all [aP.dV,aP.live]

theorem OB (wf:WF w h c) {ord:List Nat} (DC:ord.Nodup) (hu:∀i∈ord,Used h i) (TY:WF w' h' c') (x:Ext w (h.pick ord) (c.pick ord (L5 h c ord)) w' h' c') :
  WF w' (h.back ord h') (c.back ord h.length c')∧Ext w h c w' (h.back ord h') (c.back ord h.length c')∧Oz (fun j=>some (jY ord h.length j)) h' c' (h.back ord h') (c.back ord h.length c'):=by
 have dH:∀i∈ord,i<h.length:=fun i hi=>(hu i hi).1
 have hup:∀j,j<ord.length→Used (h.pick ord) j:=fun j hj=>by
  refine ⟨by simpa [ai.pick]using hj,?_⟩
  rw[mI,List.getElem?_eq_getElem hj]
  simp only[ne_eq,wz]
  exact (hu _ (List.getElem_mem hj)).2
 have hle:ord.length≤h'.length:=by
  rcases Nat.eq_zero_or_pos ord.length with h0|h0
  ·omega
  ·have:=(x.used _ (hup (ord.length - 1) (by omega))).1; omega
 have hlen:(h.back ord h').length=h.length+(h'.length - ord.length):=by simp[ai.back,dn]
 -- who owns a cell
 have Hp:∀b y,oF (h.back ord h') (c.back ord h.length c') b y→oF h' c' b y∨∃i f,i∉ord∧i<h.length∧c.mX i=some b∧(h.at i).from_ (c.off i)=some f∧f≤y:=by
  rintro b y ⟨i,f,h1,h2,h3⟩
  rcases xL (c:=c) (c':=c') DC dH hle i with ⟨j,_,_,g1,g2,g3⟩|⟨g0,g1,g2,g3,g4⟩|⟨_,g1⟩
  ·rw[g2]at h1; rw[g1,g3,Q7]at h2
   exact .inl ⟨j,f,h1,h2,h3⟩
  ·rw[g3]at h1; rw[g2,g4]at h2
   exact .inr ⟨i,f,g0,g1,h1,h2,h3⟩
  ·rw[g1]at h2; cases h2
 have WJ:∀i f b y,i∉ord→c.mX i=some b→(h.at i).from_ (c.off i)=some f→f≤y→L5 h c ord b y:=by
  intro i f b y hi h1 h2 h3
  refine .inr ⟨⟨i,f,h1,h2,h3⟩,?_⟩
  rintro ⟨i2,hm,f2,g1,g2,g3⟩
  have:=wf.inj i i2 b (lR h2) (lR g2) h1 g1
  subst this
  exact hi hm
 have Q8:∀b y,oF (h.pick ord) (c.pick ord (L5 h c ord)) b y→Ht h c ord b y:=fun b y ho=>Ab ho
 have hext:c'.ext=L5 h c ord:=x.ext
 have hren:Oz (fun j=>some (jY ord h.length j)) h' c' (h.back ord h') (c.back ord h.length c'):=by
  refine ⟨fun i j e hi => ?_,fun i j e hd => ?_,fun i j e ht => ?_,fun i j e T l ht => ?_,fun b y hf=>⟨fun ho => ?_,fun he => ?_⟩⟩
  ·cases e
   obtain ⟨g1,_,_⟩:=Lf (c:=c) (c':=c') DC dH hle i
   refine ⟨?_,by rw[g1]; simp only[ne_eq,wz]; exact hi.2⟩
   rw[hlen]
   unfold jY
   have:=hi.1
   split
   ·rename_i hj
    have:=dH _ (List.getElem_mem hj)
    simp only[List.getD,List.getElem?_eq_getElem hj,Option.getD_some]
    omega
   ·omega
  ·cases e
   obtain ⟨g1,g2,g3⟩:=Lf (c:=c) (c':=c') DC dH hle i
   rw[g1]at hd
   simp only[ne_eq,Hs]at hd
   exact ⟨hd,g2,g3⟩
  ·cases e
   rw[(Lf (c:=c) (c':=c') DC dH hle i).1]at ht
   exact T2.1 ht
  ·cases e
   rw[(Lf (c:=c) (c':=c') DC dH hle i).1]at ht
   exact T3.1 ht
  ·rcases Hp b y ho with ho|⟨i,f,g0,_,g2,g3,g4⟩
   ·exact hf.1 ho
   ·exact hf.2 (by rw[hext]; exact WJ i f b y g0 g2 g3 g4)
  ·exact hf.2 (by rw[hext]; exact .inl he)
 have hx:Ext w h c w' (h.back ord h') (c.back ord h.length c'):=by
  refine ⟨x.os,x.tape,x.output,x.size,fun i hi => ?_,fun i hi hd => ?_,fun b y hb ho=>x.cell b y hb (fun o=>ho (Q8 b y o).tp),fun b hb ho=>x.block b hb (fun y o=>ho y (Q8 b y o).tp),fun b y hb ho => ?_,rfl,x.arr⟩
  ·rcases xL (c:=c) (c':=c') DC dH hle i with ⟨j,g0,gj,g1,g2,g3⟩|⟨g0,g1,g2,g3,g4⟩|⟨g0,_⟩
   ·refine ⟨by have:=hi.1; omega,?_⟩
    rw[g1]; simp only[ne_eq,wz]
    have hjo:j<ord.length:=by
     unfold jY at g0
     split at g0
     ·assumption
     ·have:=hi.1; omega
    exact (x.used j (hup j hjo)).2
   ·exact ⟨by omega,by rw[g2]; exact hi.2⟩
   ·have:=hi.1; omega
  ·rcases xL (c:=c) (c':=c') DC dH hle i with ⟨j,g0,gj,g1,g2,g3⟩|⟨g0,g1,g2,g3,g4⟩|⟨g0,_⟩
   ·have hjo:j<ord.length:=by
     unfold jY at g0
     split at g0
     ·assumption
     ·have:=hi.1; omega
    have e:ord[j]? = some i:=by
     simp only[jY,hjo,if_true,List.getD,List.getElem?_eq_getElem hjo,Option.getD_some]at g0
     rw[List.getElem?_eq_getElem hjo,g0]
    rw[g1]at hd ⊢
    simp only[ne_eq,Hs]at hd
    obtain ⟨s1,s2,s3⟩:=x.same j (hup j hjo) hd
    rw[mI,e]at s1
    rw[g2,g3,s2,s3]
    exact ⟨OA.2 (Vk.1 s1),by simp[eT.pick,e],by simp[eT.pick,List.getD,e]⟩
   ·rw[g2]at hd ⊢
    exact ⟨Ac (E7 hi.2 hd) (fun _ _ _ => .inr trivial),g3,g4⟩
   ·have:=hi.1; omega
  ·rcases Hp b y ho with ho|⟨i,f,g0,_,g2,g3,g4⟩
   ·exact (Q8 b y (x.tp b y hb ho)).tp
   ·exact ⟨i,f,g2,g3,g4⟩
 refine ⟨⟨fun b y ho he => ?_,fun b y he=>Nat.lt_of_lt_of_le (wf.la b y he) x.size,fun i hi => ?_,fun i j b hi hj h1 h2 => ?_,wf.nz hx⟩,hx,hren⟩
 ·rcases Hp b y ho with ho|⟨i,f,g0,_,g2,g3,g4⟩
  ·exact TY.uU b y ho (by rw[hext]; exact .inl he)
  ·exact wf.uU b y ⟨i,f,g2,g3,g4⟩ he
 ·rcases xL (c:=c) (c':=c') DC dH hle i with ⟨j,g0,gj,g1,g2,g3⟩|⟨g0,g1,g2,g3,g4⟩|⟨_,g0⟩
  ·rw[g1]
   exact (TY.obj j gj).kj hren g2 g3
  ·rw[g2]
   by_cases hl:(h.at i).live
   ·refine (wf.obj i g1).pP hx (fun b hb=>x.block b ((wf.obj i g1).lt hl hb) fun y o => ?_) g3 g4
    obtain ⟨i2,hm,f2,k1,k2,_⟩:=Q8 b y o
    have:=wf.inj i i2 b hl (lR k2) hb k1
    subst this
    exact g0 hm
   ·have h0:h.at i = .free∨h.at i = .dead:=by revert hl; cases h.at i <;> simp[aP.live]
    rcases h0 with h0|h0 <;> rw[h0] <;> trivial
  ·rw[g0]; trivial
 ·have key:∀i j b,i∉ord→(h.at i).live→c.mX i=some b→(h'.at j).live→c'.mX j=some b→False:=by
   intro i j b hi hl hb Wj k9
   have hbl:=(wf.obj i (ai.dR rfl (rh hl))).lt hl hb
   obtain ⟨f,hf⟩:=Vj Wj (c'.off j)
   obtain ⟨i2,hm,f2,k1,k2,_⟩:=Q8 b f (x.tp b f hbl ⟨j,f,k9,hf,Nat.le_refl _⟩)
   have:=wf.inj i i2 b hl (lR k2) hb k1
   subst this
   exact hi hm
  rcases xL (c:=c) (c':=c') DC dH hle i with ⟨i',a0,_,a1,a2,a3⟩|⟨a0,a1,a2,a3,a4⟩|⟨_,a0⟩
  ·rcases xL (c:=c) (c':=c') DC dH hle j with ⟨j',b0,_,b1,b2,b3⟩|⟨b0,b1,b2,b3,b4⟩|⟨_,b0⟩
   ·rw[a1,Aa]at hi; rw[b1,Aa]at hj
    rw[a2]at h1; rw[b2]at h2
    rw[←a0,←b0,TY.inj i' j' b hi hj h1 h2]
   ·rw[a1,Aa]at hi; rw[b2]at hj
    rw[a2]at h1; rw[b3]at h2
    exact (key j i' b b0 hj h2 hi h1).elim
   ·rw[b0]at hj; exact hj.elim
  ·rcases xL (c:=c) (c':=c') DC dH hle j with ⟨j',b0,_,b1,b2,b3⟩|⟨b0,b1,b2,b3,b4⟩|⟨_,b0⟩
   ·rw[a2]at hi; rw[b1,Aa]at hj
    rw[a3]at h1; rw[b2]at h2
    exact (key i j' b a0 hi h1 hj h2).elim
   ·rw[a2]at hi; rw[b2]at hj
    rw[a3]at h1; rw[b3]at h2
    exact wf.inj i j b hi hj h1 h2
   ·rw[b0]at hj; exact hj.elim
  ·rw[a0]at hi; exact hi.elim
end

section
variable {tt:ca} {h:ai} {R:Type}

theorem wg {t off:Nat} {cs:List V} {k0:V→Option R} {r:R} (hk:mF tt t cs off k0=some r) :
  ∃v,k0 v=some r∧∀k:V→Option R,mF tt t cs off k=k v:=by
 unfold mF at hk
 split at hk
 ·rename_i lh
  split at hk
  ·rename_i LJ
   split at hk
   ·rename_i k8
    exact ⟨_,hk,fun k=>by simp[mF,lh,LJ,k8]⟩
   ·cases hk
  ·rename_i LJ
   split at hk
   ·rename_i v hv
    exact ⟨_,hk,fun k=>by simp[mF,lh,LJ,hv]⟩
   ·cases hk
 ·cases hk

theorem Hv {op:BinOp} {x y:V} {k0:V→Option R} {r:R} (hk:tm op x y k0=some r) :
  ∃v,k0 v=some r∧∀k:V→Option R,tm op x y k=k v:=by
 unfold tm at hk
 split at hk
 ·obtain ⟨hb,hk⟩:=aV hk
  exact ⟨_,hk,fun k=>by simp[tm,cC,hb]⟩
 ·obtain ⟨hb,hk⟩:=aV hk
  exact ⟨_,hk,fun k=>by simp[tm,cC,hb]⟩
 ·split at hk
  ·rename_i tR
   subst tR
   split at hk <;> first
    | (exact ⟨_,hk,fun k=>by simp[tm]⟩)
    | (obtain ⟨hb,hk⟩:=aV hk; exact ⟨_,hk,fun k=>by simp only[tm,hb,cC,cond_true,if_true]⟩)
    | cases hk
  ·cases hk
 ·split at hk <;> first
    | (exact ⟨_,hk,fun k=>by simp[tm]⟩)
    | (obtain ⟨hb,hk⟩:=aV hk; exact ⟨_,hk,fun k=>by simp only[tm,hb,cC,cond_true]⟩)
    | cases hk
 ·split at hk
  ·exact ⟨_,hk,fun k=>by simp[tm, *]⟩
  ·cases hk
 ·split at hk
  ·exact ⟨_,hk,fun k=>by simp[tm, *]⟩
  ·cases hk
 ·cases hk

theorem WY {op:BinOp} {x y:V} {k0:V→Option R} {r:R} (hk:Po op x y k0=some r) :
  ∃v,k0 v=some r∧∀k:V→Option R,Po op x y k=k v:=by
 unfold Po at hk
 split at hk
 ·split at hk
  ·exact ⟨_,hk,fun k=>by simp[Po, *]⟩
  ·exact ⟨_,hk,fun k=>by simp[Po, *]⟩
  ·cases hk
 ·cases hk

theorem ZP {op:BinOp} {o:Operand} {x y:V} {k0:V→Option R} {r:R} (hk:ifK op o x y k0=some r) :
  ∃v,k0 v=some r∧∀k:V→Option R,ifK op o x y k=k v:=by
 unfold ifK at hk
 split at hk <;> first|(exact ⟨_,hk,fun k=>by simp[ifK]⟩)|cases hk

theorem OC {a:V} {neg:Bool} {k0:V→Option R} {r:R} (hk:Db a (fun r=>k0 (Ly neg r))=some r) :
  ∃v,k0 v=some r∧∀k:V→Option R,Db a (fun r=>k (Ly neg r))=k v:=by
 unfold Db at hk
 split at hk <;> try cases hk
 ·exact ⟨_,hk,fun k=>by simp[Db]⟩
 ·rename_i l _
  cases hl:l.isEmpty with
  | true=>rw[hl]at hk; exact ⟨_,hk,fun k=>by simp only[Db,hl]; rfl⟩
  | false=>rw[hl]at hk; exact ⟨_,hk,fun k=>by simp only[Db,hl]; rfl⟩
 ·rename_i n
  cases hl:decide (n=0)with
  | true=>rw[hl]at hk; exact ⟨_,hk,fun k=>by simp only[Db,hl]; rfl⟩
  | false=>rw[hl]at hk; exact ⟨_,hk,fun k=>by simp only[Db,hl]; rfl⟩

theorem ZQ {op:BinOp} {x y:V} {k0:V→Option R} {r:R} (hk:ZA op x y k0=some r) :
  ∃v,k0 v=some r∧∀k:V→Option R,ZA op x y k=k v:=by
 unfold ZA at hk
 split at hk
 ·split at hk
  ·obtain ⟨v,h1,h2⟩:=OC hk
   exact ⟨v,h1,fun k=>by simp[ZA,h2]⟩
  ·obtain ⟨v,h1,h2⟩:=OC hk
   exact ⟨v,h1,fun k=>by simp[ZA,h2]⟩
  ·cases hk
 ·cases hk

theorem uY {v:Option V} {d:Int} {k0:Int→Option R} {r:R} (hk:yv v d k0=some r) :
  ∃n,k0 n=some r∧∀k:Int→Option R,yv v d k=k n:=by
 unfold yv at hk
 split at hk
 ·exact ⟨_,hk,fun k=>rfl⟩
 ·exact ⟨_,hk,fun k=>rfl⟩
 ·cases hk

theorem ZR {o:Op} {ρ:Operand→V} {k0:V→Option R} {r:R} (hk:Za tt o ρ k0=some r) :
  ∃v,k0 v=some r∧∀k:V→Option R,Za tt o ρ k=k v:=by
 cases o <;> simp only[Za]at hk ⊢ <;> try (first|cases hk)
 case move x=>exact ⟨_,hk,fun k=>rfl⟩
 case assign x=>exact ⟨_,hk,fun k=>rfl⟩
 case pick c a b =>
  split at hk
  ·rename_i t ht
   split at hk
   ·rename_i u v hu hv
    exact ⟨_,hk,fun k=>by simp[ht,hu,hv]⟩
   ·rename_i u v hn
    refine ⟨bif t then ρ a else ρ b,by cases t <;> exact hk,fun k => ?_⟩
    cases t <;> rfl
  ·cases hk
 case nilCheck x =>
  split at hk <;> first|(exact ⟨_,hk,fun k=>by simp[*]⟩)|cases hk
 case binOp op t x y _ =>
  split at hk
  ·split at hk
   ·obtain ⟨v,h1,h2⟩:=Hv hk
    exact ⟨v,h1,fun k=>by simp[*]⟩
   ·cases hk
  ·split at hk
   ·obtain ⟨v,h1,h2⟩:=Hv hk
    exact ⟨v,h1,fun k=>by simp[*]⟩
   ·cases hk
  ·obtain ⟨v,h1,h2⟩:=Hv hk
   exact ⟨v,h1,fun k=>by simp[*]⟩
  ·obtain ⟨v,h1,h2⟩:=Hv hk
   exact ⟨v,h1,fun k=>by simp[*]⟩
  ·rename_i n1 n2 n3 n4
   split at hk
   ·rename_i hd
    obtain ⟨v,h1,h2⟩:=WY hk
    exact ⟨v,h1,fun k=>by simp[*]⟩
   ·rename_i hd
    obtain ⟨v,h1,h2⟩:=ZQ hk
    exact ⟨v,h1,fun k=>by simp[*]⟩
   ·rename_i hd
    obtain ⟨v,h1,h2⟩:=ZP hk
    exact ⟨v,h1,fun k=>by simp[*]⟩
   ·cases hk
 case unOp op _ x =>
  split at hk <;> first|(exact ⟨_,hk,fun k=>by simp[*]⟩)|cases hk
 case makeInterface t x =>
  split at hk <;> first|(exact ⟨_,hk,fun k=>by simp[*]⟩)|cases hk
 case convert s d x =>
  split at hk
  ·cases hk
  ·split at hk
   ·exact ⟨_,hk,fun k=>by simp[*]⟩
   ·split at hk
    ·exact ⟨_,hk,fun k=>by simp[*]⟩
    ·cases hk
   ·cases hk
 case fieldAddr s x f =>
  split at hk <;> try (first|cases hk)
  split at hk <;> try (first|cases hk)
  split at hk <;> try (first|cases hk)
  split at hk <;> first|(exact ⟨_,hk,fun k=>by simp_all⟩)|cases hk
 case field s x f =>
  split at hk <;> try (first|cases hk)
  split at hk <;> try (first|cases hk)
  obtain ⟨v,h1,h2⟩:=wg hk
  exact ⟨v,h1,fun k=>by simp[*]⟩
 case indexAddr t x i =>
  unfold idxOf at hk ⊢
  split at hk <;> try (first|cases hk)
  split at hk <;> try (first|cases hk)
  ·split at hk <;> try (first|cases hk)
   obtain ⟨hb,hk⟩:=aV hk
   exact ⟨_,hk,fun k=>by simp_all [cC]⟩
  ·split at hk <;> try (first|cases hk)
   obtain ⟨hb,hk⟩:=aV hk
   exact ⟨_,hk,fun k=>by simp_all [cC]⟩
  ·split at hk <;> try (first|cases hk)
   obtain ⟨hb,hk⟩:=aV hk
   exact ⟨_,hk,fun k=>by simp_all [cC]⟩
  ·split at hk <;> try (first|cases hk)
   rename_i hc
   obtain ⟨hb,hk⟩:=aV hk
   exact ⟨_,hk,fun k=>by simp only[*,if_true,cC,cond_true]⟩
  ·split at hk <;> try (first|cases hk)
   rename_i hc
   obtain ⟨hb,hk⟩:=aV hk
   exact ⟨_,hk,fun k=>by simp only[*,if_true,cC,cond_true]⟩
 case index t x i =>
  unfold idxOf at hk ⊢
  split at hk <;> try (first|cases hk)
  split at hk <;> try (first|cases hk)
  ·obtain ⟨hb,hk⟩:=aV hk
   exact ⟨_,hk,fun k=>by simp_all [cC]⟩
  ·obtain ⟨hb,hk⟩:=aV hk
   obtain ⟨v,h1,h2⟩:=wg hk
   exact ⟨v,h1,fun k=>by simp_all [cC]⟩
 case slice t x lo hi mx =>
  split at hk <;> try (first|cases hk)
  split at hk <;> try (first|cases hk)
  ·rename_i hd hx
   obtain ⟨n,hk,e1⟩:=uY hk
   obtain ⟨m,hk,e2⟩:=uY hk
   obtain ⟨hb,hk⟩:=aV hk
   obtain ⟨hb2,hk⟩:=aV hk
   exact ⟨_,hk,fun k=>by simp only[hd,hx,e1,e2,hb,hb2,cC,cond_true]⟩
  ·rename_i hd hx
   split at hk <;> try (first|cases hk)
   rename_i hc
   obtain ⟨n,hk,e1⟩:=uY hk
   split at hk
   ·obtain ⟨hb,hk⟩:=aV hk
    exact ⟨_,hk,fun k=>by simp only[hd,hx,hc,e1,hb,cC,cond_true,if_true]⟩
   ·obtain ⟨m,hk,e2⟩:=uY hk
    obtain ⟨hb,hk⟩:=aV hk
    obtain ⟨hb2,hk⟩:=aV hk
    exact ⟨_,hk,fun k=>by simp only[hd,hx,hc,e1,e2,hb,hb2,cC,cond_true,if_true]⟩
  ·rename_i hd hx
   split at hk <;> try (first|cases hk)
   rename_i hc
   obtain ⟨n,hk,e1⟩:=uY hk
   obtain ⟨m,hk,e2⟩:=uY hk
   obtain ⟨hb,hk⟩:=aV hk
   exact ⟨_,hk,fun k=>by rw[if_neg hc]; simp only[e1,e2,hb,cC,cond_true]⟩
  ·rename_i hd hx
   split at hk <;> try (first|cases hk)
   rename_i hc
   obtain ⟨n,hk,e1⟩:=uY hk
   obtain ⟨m,hk,e2⟩:=uY hk
   obtain ⟨hb,hk⟩:=aV hk
   obtain ⟨hb2,hk⟩:=aV hk
   exact ⟨_,hk,fun k=>by rw[if_neg hc]; simp only[e1,e2,hb,hb2,cC,cond_true]⟩
 case makeFunc f first cap =>
  cases f <;> simp only at hk ⊢ <;> first|(exact ⟨_,hk,fun k=>rfl⟩)|cases hk
 case extract t i =>
  split at hk <;> try (first|cases hk)
  split at hk <;> try (first|cases hk)
  exact ⟨_,hk,fun k=>by simp[*]⟩
 case build t parts =>
  split at hk <;> try (first|cases hk)
  all_goals
   rename_i hd
   split at hk <;> try (first|cases hk)
   rename_i hc
   split at hk <;> try (first|cases hk)
   rename_i hf
   exact ⟨_,hk,fun k=>by rw[if_neg hc]⟩
 case call c =>
  split at hk <;> try (first|cases hk)
  ·split at hk <;> try (first|cases hk)
   split at hk <;> try (first|cases hk)
   all_goals exact ⟨_,hk,fun k=>by simp[*]⟩
  ·split at hk <;> try (first|cases hk)
   split at hk <;> try (first|cases hk)
   exact ⟨_,hk,fun k=>by simp[*]⟩
  ·split at hk <;> try (first|cases hk)
   split at hk <;> try (first|cases hk)
   exact ⟨_,hk,fun k=>by simp[*]⟩

def aP.rd:aP→aP
 | .tok | .dead => .free
 | ob=>ob
theorem Q9 {a b:aP} (h:a.rd=b.rd):a=b∨((a = .tok∨a = .dead∨a = .free)∧(b = .tok∨b = .dead∨b = .free)):=by
 cases a <;> cases b <;> simp[aP.rd]at h ⊢ <;> exact h
theorem WZ {a b:aP} (h:a.rd=b.rd) {cs:List V} (hb:b = .cells cs):a = .cells cs:=by
 rcases Q9 h with h|⟨_,h⟩
 ·rw[h,hb]
 ·rw[hb]at h; simp at h
theorem rd_bld {a b:aP} (h:a.rd=b.rd) {v:V} (hb:b = .qV v):a = .qV v:=by
 rcases Q9 h with h|⟨_,h⟩
 ·rw[h,hb]
 ·rw[hb]at h; simp at h
theorem W0 {a b:aP} (h:a.rd=b.rd) {T:Ty} {l:List T.den} (hb:b = .row T l):a = .row T l:=by
 rcases Q9 h with h|⟨_,h⟩
 ·rw[h,hb]
 ·rw[hb]at h; simp at h

theorem ZS {a b:aP} (h:a.rd=b.rd) {K T:Ty} {l:List (K.den×T.den)} (hb:b = .qW K T l):a = .qW K T l:=by
 rcases Q9 h with h|⟨_,h⟩
 ·rw[h,hb]
 ·rw[hb]at h; simp at h

theorem ZT {o:Op} {ρ:Operand→V} {lim:Option Nat} {k0:V→Option R} {r:R} (hk:UC tt o ρ h lim k0=some r) :
  ∃v,k0 v=some r∧∀(h2:ai),(∀i,Dc lim i=true→(h2.at i).rd=(h.at i).rd)→∀k:V→Option R,UC tt o ρ h2 lim k=k v:=by
 cases o <;> simp only[UC]at hk ⊢ <;> try (first|cases hk)
 case load t x =>
  split at hk <;> try (first|cases hk)
  ·split at hk <;> try (first|cases hk)
   rename_i hl
   split at hk <;> try (first|cases hk)
   all_goals rename_i hc
   ·obtain ⟨v,h1,h2⟩:=wg hk
    exact ⟨v,h1,fun hh e k=>by have e':=WZ (e _ hl) hc; clear e; simp only[*,if_true]⟩
   ·obtain ⟨v,h1,h2⟩:=wg hk
    exact ⟨v,h1,fun hh e k=>by have e':=rd_bld (e _ hl) hc; clear e; simp only[*,if_true]⟩
  ·obtain ⟨v,h1,h2⟩:=wg hk
   exact ⟨v,h1,fun hh e k=>by simp only[*]⟩
  ·split at hk <;> try (first|cases hk)
   rename_i hl
   split at hk <;> try (first|cases hk)
   rename_i T l hc
   split at hk <;> try (first|cases hk)
   rename_i hs
   obtain ⟨hb,hk⟩:=aV hk
   obtain ⟨v,h1,h2⟩:=wg hk
   exact ⟨v,h1,fun hh e k=>by have e':=W0 (e _ hl) hc; clear e; simp only[*,if_true,cC,cond_true]⟩
 case lookup t x ix ok =>
  split at hk <;> try (first|cases hk)
  rename_i kt vt i h1 h2
  split at hk <;> try (first|cases hk)
  rename_i hl
  split at hk <;> try (first|cases hk)
  rename_i K T l hc
  split at hk <;> try (first|cases hk)
  rename_i hf
  split at hk <;> try (first|cases hk)
  rename_i kx hx
  refine ⟨bif ok then .tuple [Nv T (pQ K T kx l), .bool (Bl K T kx l)]else Nv T (pQ K T kx l),by cases ok <;> exact hk,fun hh e k => ?_⟩
  have e':=ZS (e _ hl) hc
  clear e
  simp only[h1,h2,hl,e',hf,hx,if_true]
  cases ok <;> rfl
 case convert s d x =>
  split at hk <;> try (first|cases hk)
  ·rename_i e i n h1 h2 h3
   split at hk <;> try (first|cases hk)
   rename_i hl
   split at hk <;> try (first|cases hk)
   rename_i h4 h5
   exact ⟨_,hk,fun hh e k=>by have e':=W0 (e _ hl) h5; clear e; simp only[*,if_true]⟩
  ·rename_i h1 h2 h3
   split at hk <;> try (first|cases hk)
   ·rename_i h4
    exact ⟨_,hk,fun hh e k=>by simp only[*]⟩
   ·rename_i h4
    obtain ⟨hb,hk⟩:=aV hk
    exact ⟨_,hk,fun hh e k=>by simp only[*,cC,cond_true]⟩
  ·rename_i h1 h2 h3
   split at hk <;> try (first|cases hk)
   rename_i h4
   exact ⟨_,hk,fun hh e k=>by simp only[*]⟩

theorem ZU {o:Op} {ρ:Operand→V} {k0:aP→(Nat→V)→Option R} {r:R} (hk:We tt o ρ k0=some r) :
  ∃ob mk,k0 ob mk=some r∧∀k:aP→(Nat→V)→Option R,We tt o ρ k=k ob mk:=by
 cases o <;> simp only[We]at hk ⊢ <;> try (first|cases hk)
 case alloc t =>
  split at hk
  ·exact ⟨_,_,hk,fun k=>by simp[*]⟩
  ·split at hk <;> try (first|cases hk)
   exact ⟨_,_,hk,fun k=>by simp[*]⟩
 case box t x =>
  split at hk <;> try (first|cases hk)
  split at hk <;> try (first|cases hk)
  exact ⟨_,_,hk,fun k=>by simp only[*,if_true]⟩
 case buildSlice t len parts =>
  split at hk <;> try (first|cases hk)
  split at hk <;> try (first|cases hk)
  rename_i hc
  split at hk <;> try (first|cases hk)
  ·rename_i h1 h2
   split at hk <;> try (first|cases hk)
   rename_i h3
   split at hk
   ·exact ⟨_,_,hk,fun k=>by simp only[*,if_true,if_false]; rfl⟩
   split at hk
   ·split at hk <;> try (first|cases hk)
    exact ⟨_,_,hk,fun k=>by simp only[*,if_true,if_false]; rfl⟩
   split at hk
   ·exact ⟨_,_,hk,fun k=>by simp only[*,if_true,if_false]; rfl⟩
   ·exact ⟨_,_,hk,fun k=>by simp only[*,if_true,if_false]; rfl⟩
  ·exact ⟨_,_,hk,fun k=>by simp only[*,if_true,if_false]; rfl⟩
 case makeSlice t n c =>
  split at hk <;> try (first|cases hk)
  split at hk <;> try (first|cases hk)
  split at hk <;> try (first|cases hk)
  split at hk <;> try (first|cases hk)
  rename_i h3
  obtain ⟨hb,hk⟩:=aV hk
  exact ⟨_,_,hk,fun k=>by simp only[*,if_true,cC,cond_true]⟩
 case convert s d x =>
  split at hk <;> try (first|cases hk)
  split at hk <;> try (first|cases hk)
  exact ⟨_,_,hk,fun k=>by simp[*]⟩
 case range t x =>
  split at hk <;> try (first|cases hk)
  exact ⟨_,_,hk,fun k=>by simp[*]⟩
 case makeMap t rsv =>
  split at hk <;> try (first|cases hk)
  rename_i h1
  split at hk <;> try (first|cases hk)
  rename_i kt vt h2
  split at hk <;> try (first|cases hk)
  rename_i K V' h3 h4
  split at hk <;> try (first|cases hk)
  rename_i h5
  exact ⟨_,_,hk,fun k=>by simp only[h1,h2,h3,h4,h5,if_true]⟩

theorem mapF {β:Type} {ρ ρ':Operand→V} (f:Nat→V→β) (ps:List (Nat×Operand)) (h:∀x∈ps.map (·.2),ρ x=ρ' x) :
  (ps.map fun (i,x)=>f i (ρ x))=(ps.map fun (i,x)=>f i (ρ' x)) :=
 List.map_congr_left fun p hm=>by
  obtain ⟨i,x⟩:=p
  simp only[h x (List.mem_map.2 ⟨(i,x),hm,rfl⟩)]

theorem OD {o:Op} {ρ ρ':Operand→V} (h:∀x∈o.operands,ρ x=ρ' x) {k:V→Option R}:Za tt o ρ k=Za tt o ρ' k:=by
 cases o <;> simp only[Op.operands]at h <;> simp only[Za]
 case build t ps =>
  have hp:∀x∈ps.toList.map (·.2),ρ x=ρ' x:=fun x hx=>h x (by simpa using hx)
  split
  ·rename_i fs hd
   rw[mapF (fun i v=>((fs.getD i (0,0)).1,if i<fs.length then (tt.at (fs.getD i (0,0)).2).size else 1000000,v)) ps.toList hp]
  ·rename_i e hd
   rw[mapF (fun i v=>(i*(tt.at e).size,(tt.at e).size,v)) ps.toList hp]
  ·rfl
 case makeFunc f first cap =>
  cases f <;> simp only
  rw[List.map_congr_left (l:=first.toList) (g:=ρ') fun x hx=>h x (by simp at hx ⊢; exact .inl hx),List.map_congr_left (l:=cap.toList) (g:=ρ') fun x hx=>h x (by simp at hx ⊢; exact .inr hx)]
 case slice t x lo hi mx=>cases lo <;> cases hi <;> cases mx <;> simp_all
 case call c =>
  obtain ⟨callee,args,argTypes⟩:=c
  have ha:∀x∈args.toList,ρ x=ρ' x:=fun x hx=>h x (by simp[Call.operands]at hx ⊢; exact .inr hx)
  simp only
  split
  ·rename_i x e; rw[ha x (by rw[e]; simp)]
  ·rename_i x y e; rw[ha x (by rw[e]; simp),ha y (by rw[e]; simp)]
  ·rename_i x y e; rw[ha x (by rw[e]; simp),ha y (by rw[e]; simp)]
  ·rfl
 all_goals (first|rfl|(simp_all; done))

theorem OE {o:Op} {ρ ρ':Operand→V} (h':∀x∈o.operands,ρ x=ρ' x) {lim:Option Nat} {k:V→Option R}:UC tt o ρ h lim k=UC tt o ρ' h lim k:=by
 cases o <;> simp only[Op.operands]at h' <;> simp only[UC]
 all_goals (first|rfl|(simp_all; done))

theorem OF {o:Op} {ρ ρ':Operand→V} (h':∀x∈o.operands,ρ x=ρ' x) {k:aP→(Nat→V)→Option R}:We tt o ρ k=We tt o ρ' k:=by
 cases o <;> simp only[Op.operands]at h' <;> simp only[We]
 case makeMap t rsv =>
  have e:zS ρ rsv=zS ρ' rsv:=by
   cases rsv with
   | none=>rfl
   | some x=>simp only[zS]; rw[h' x (by simp)]
  rw[e]
 case buildSlice t len ps =>
  have hp:∀x∈ps.toList.map (·.2),ρ x=ρ' x:=fun x hx=>h' x (by simpa using hx)
  split
  ·rename_i e hd
   rw[mapF (fun i v=>(i*(tt.at e).size,(tt.at e).size,v)) ps.toList hp]
  ·rfl
 all_goals (first|rfl|(simp_all; done))

theorem OG {o:Op} {ρ ρ':Operand→V} (h':∀x∈o.operands,ρ x=ρ' x) {id:Nat} {k:V→ai→Option R}:Lz tt o ρ h id k=Lz tt o ρ' h id k:=by
 cases o <;> simp only[Op.operands]at h' <;> simp only[Lz]
 case call c =>
  obtain ⟨callee,args,argTypes⟩:=c
  have ha:∀x∈args.toList,ρ x=ρ' x:=fun x hx=>h' x (by simp[Call.operands]at hx ⊢; exact .inr hx)
  simp only
  split
  ·rename_i x y t xt e et; rw[ha x (by rw[e]; simp),ha y (by rw[e]; simp)]
  ·rfl
 case slice t x lo hi mx=>cases lo <;> cases hi <;> cases mx <;> simp_all
 all_goals (first|rfl|(simp_all; done))
end

section
variable {P:Program} {tt:ca} {w w':World} {h h':ai} {c c':eT} {R:Type}

theorem vN:∀(l:List Nat) (h:ai),Ext w h c w (iM h l) c
 | [],h => .refl _ _ _
 | i::l,h=>by
  simp only[iM]
  split
  ·exact (wu i).trans (vN l _)
  ·exact vN l h

theorem xM:∀(l:List Nat) (h:ai),WF w h c→WF w (iM h l) c
 | [],h,wf=>wf
 | i::l,h,wf=>by
  simp only[iM]
  split
  ·exact xM l _ (Lc wf i)
  ·exact xM l h wf

theorem uZ:∀(l:List Nat) (h:ai) (j:Nat),ai.at (iM h l) j=h.at j∨ai.at (iM h l) j = .dead
 | [],h,j => .inl rfl
 | i::l,h,j=>by
  simp only[iM]
  split
  ·rcases uZ l (h.set i .dead) j with e|e
   ·rw[e,gm]
    split
    ·exact .inr rfl
    ·exact .inl rfl
   ·exact .inr e
  ·exact uZ l h j

theorem DS:∀(l:List Nat) (h:ai) (j:Nat) {T:Ty} {m:List T.den},j∈l→h.at j = .row T m→ai.at (iM h l) j = .dead
 | [],_,_,_,_,hj,_=>by cases hj
 | i::l,h,j,T,m,hj,he=>by
  simp only[iM]
  by_cases tR:i=j
  ·subst tR
   split
   ·rcases uZ l (h.set i .dead) i with e|e
    ·rw[e]; exact fT _ (ai.dR he (by simp))
    ·exact e
   ·rename_i hn; exact (hn T m he).elim
  ·have Oq:j∈l:=by
    rcases List.mem_cons.1 hj with rfl|h
    ·exact (tR rfl).elim
    ·exact h
   split
   ·exact DS l _ j Oq (by rw[bm _ tR]; exact he)
   ·exact DS l h j Oq he

theorem Hw (h:ai):∀l:List V,V.JQ h l=l.map (V.shut h)
 | []=>rfl
 | v::l=>by simp only[V.JQ,List.map_cons,Hw h l]

theorem oF.dead {ids:List Nat} {b x:Nat} (ho:oF (iM h ids) c b x):oF h c b x:=by
 obtain ⟨i,f,g1,g2,g3⟩:=ho
 rcases uZ ids h i with e|e
 ·exact ⟨i,f,g1,e▸g2,g3⟩
 ·rw[e]at g2; cases g2

theorem W1 (wf:WF w h c) {ids:List Nat} {v:V} {d:Value} (r:cd w h c v d):(∀i∈v.ids,i∈ids)→cd w (iM h ids) c (v.shut h) d:=by
 have x:=vN (w:=w) (c:=c) ids h
 induction r with
 | sl f eQ lD hc hr vL fA=>exact fun _=>(cd.sl (t := .no) f eQ lD hc hr (by simp) (by simp)).mono x
 | @row i n v hi hn hv =>
  intro L7
  simp only[V.shut]
  split
  ·rename_i T l he
   obtain ⟨A,cap,rfl,hA,hv⟩:=hv
   obtain ⟨QC,hle,lD,hor⟩:=hv T l he
   obtain ⟨ds,rds,DP⟩:=Ld wf he
   subst QC
   refine uW (rds.mono x) hle lD (fun hl => ?_) (by simp) (by simp)
   obtain ⟨b,hb,tW⟩:=DP hl
   rcases hor with ⟨h1,_⟩|⟨b',arr,e,fz,h1,h2,h3,h4⟩
   ·rw[hb]at h1; cases h1
   ·rw[hb]at h1; cases h1
    refine ⟨b,c.off i,h2,tW,fun y hy1 hy2 => ?_⟩
    have fA:oF h c b y:=⟨i,0,hb,by rw[he]; rfl,Nat.zero_le _⟩
    refine ⟨fun ho => ?_,wf.uU b y fA⟩
    obtain ⟨j,f,g1,g2,g3⟩:=ho
    have hdead:=DS ids h i (L7 i (by simp[V.ids])) he
    rcases uZ ids h j with e'|e'
    ·have Zf:(h.at j).live:=by rw[e']at g2; exact lR g2
     have:=wf.inj i j b (by rw[he]; trivial) Zf hb g1
     subst this
     rw[hdead]at g2
     cases g2
    ·rw[e']at g2; cases g2
  ·exact .undef _
 | @agg cs y hl _ ih =>
  intro L7
  simp only[V.shut,Hw]
  refine .agg (by simpa using hl) fun j v d hv hd => ?_
  rw[List.getElem?_map]at hv
  cases e:cs[j]? with
  | none=>rw[e]at hv; cases hv
  | some u =>
   rw[e]at hv; simp at hv; subst hv
   exact ih j u d e hd fun i hi=>L7 i (by simp only[V.ids]; exact lG.2 ⟨j,u,e,hi⟩)
 | @tuple cs y hl _ ih =>
  intro L7
  simp only[V.shut,Hw]
  refine .tuple (by simpa using hl) fun j v d hv hd => ?_
  rw[List.getElem?_map]at hv
  cases e:cs[j]? with
  | none=>rw[e]at hv; cases hv
  | some u =>
   rw[e]at hv; simp at hv; subst hv
   exact ih j u d e hd fun i hi=>L7 i (by simp only[V.ids]; exact lG.2 ⟨j,u,e,hi⟩)
 | undef v=>exact fun _ => .undef _
 | int hn=>exact fun _ => .int hn
 | bool b=>exact fun _ => .bool b
 | str hl=>exact fun _ => .str hl
 | gk=>exact fun _ => .gk
 | aI=>exact fun _ => .aI
 | fB=>exact fun _ => .fB
 | km=>exact fun _ => .km
 | dd=>exact fun _ => .dd
 | iface t v=>exact fun _ => .iface t v
 | Lq hn=>exact fun _ => .Lq hn
 | m0 hi hn hv=>exact fun _=>(cd.m0 hi hn hv).mono x
 | Fh b=>exact fun _ => .Fh b
 | ptr hi hv=>exact fun _=>(cd.ptr hi hv).mono x
 | map hi hv=>exact fun _=>(cd.map hi hv).mono x
 | nu hi hv=>exact fun _=>(cd.nu hi hv).mono x
 | lX f hc hr _=>exact fun _=>(cd.lX f hc hr).mono x
 | Ku hn lD f hc hr _=>exact fun _=>(cd.Ku hn lD f hc hr).mono x
 | func ha hb Zb hrb _ _=>exact fun _=>(cd.func ha hb Zb hrb).mono x

theorem OH (wf:WF w h c) {vs:List V} {ds:List Value} (r:bl w h c vs ds):bl w (iM h (V.nv vs)) c (V.JQ h vs) ds:=by
 rw[Hw]
 refine ⟨by simpa using r.1,fun j v d hv hd => ?_⟩
 rw[List.getElem?_map]at hv
 cases e:vs[j]? with
 | none=>rw[e]at hv; cases hv
 | some u =>
  rw[e]at hv; simp at hv; subst hv
  exact W1 wf (r.2 j u d e hd) fun i hi=>lG.2 ⟨j,u,e,hi⟩

theorem OI {t:Nat} {v:V} {d:Value} (r:cd w h c v d):cd w h c (canon tt t v) d:=by
 unfold canon
 split
 ·rename_i T hT
  split
  ·rename_i cs
   split
   ·rename_i x hx
    split
    ·cases r with
     | @agg _ y hl hr =>
      have rl:bl w h c cs y.toList:=⟨by simpa using hl,fun j v d hv hd=>hr j v d hv (by simpa using hd)⟩
      have:=E8 hx rl
      exact .agg (by simpa using this.1) fun j v d hv hd=>this.2 j v d hv (by simpa using hd)
    ·exact r
   ·exact r
  ·split
   ·rename_i x hx
    split
    ·exact r
    ·have:=E8 hx (bl.cons r bl.nil)
     split
     ·rename_i e he
      rw[he]at this
      exact this.head
     ·exact r
   ·exact r
 ·split
  ·split
   ·split
    ·rename_i l hl; exact LU r hl
    ·exact r
   ·exact r
  ·exact r

theorem L8:∀(ts:List Nat) {vs:List V} {ds:List Value},bl w h c vs ds→bl w h c (Gu tt ts vs) ds
 | [],vs,ds,r=>by simpa [Gu]using r
 | t::ts, [],ds,r=>by simpa [Gu]using r
 | t::ts,v::vs, [],r=>by have:=r.1; simp at this
 | t::ts,v::vs,d::ds,r => .cons (OI r.head) (L8 ts r.tail)

theorem I2 {v:V} {d:Value} (hs:v.Om=true) (r:cd w h c v d):cd w' h' c' v d:=by
 cases r <;> simp only[V.Om]at hs <;> try (first|cases hs)
 case int hn=>exact .int hn
 case bool b=>exact .bool b
 case str hl=>exact .str hl
 case gk=>exact .gk
 case aI=>exact .aI
 case fB=>exact .fB
 case km=>exact .km
 case dd=>exact .dd
 case iface t v=>exact .iface t v
 case Lq hn=>exact .Lq hn

theorem W2 {v:V} {d:Value} (hs:v.UD=true) (r:cd w h c v d):cd w' h' c' v d:=by
 cases r
 case agg hl hr =>
  simp only[V.UD,List.all_eq_true]at hs
  exact .agg hl fun j v d hv hd=>I2 (hs v (List.mem_of_getElem? hv)) (hr j v d hv hd)
 case tuple hl hr =>
  simp only[V.UD,List.all_eq_true]at hs
  exact .tuple hl fun j v d hv hd=>I2 (hs v (List.mem_of_getElem? hv)) (hr j v d hv hd)
 all_goals first
  | exact I2 (w:=w) (h:=h) (c:=c) hs (by constructor <;> assumption)
  | (simp only[V.UD,V.Om]at hs; cases hs)

theorem Vl {c1 c2:eT} (wf:WF w h c) (x:Ext w [] c1 w' h' c2):Ext w h c w' h c∧WF w' h c:=by
 have nown:∀b y, ¬oF ([]:ai) c1 b y:=fun b y ho=>by
  obtain ⟨i,f,_,g2,_⟩:=ho
  simp[ai.at,aP.from_]at g2
 have hx:Ext w h c w' h c := {
  os:=x.os
  tape:=x.tape
  output:=x.output
  size:=x.size
  used:=fun _ hi=>hi
  same:=fun i hi hd=>⟨by have h2:=hi.2; revert hd h2; cases h.at i <;> simp[aP.dV],rfl,rfl⟩
  cell:=fun b y hb _=>x.cell b y hb (nown b y)
  block:=fun b hb _=>x.block b hb (nown b)
  tp:=fun _ _ _ ho=>ho
  ext:=rfl
  arr:=x.arr }
 refine ⟨hx,?_,fun b y hb=>Nat.lt_of_lt_of_le (wf.la b y hb) x.size,fun i hi => ?_,wf.inj,wf.nz hx⟩
 ·exact wf.uU
 ·by_cases hl:(h.at i).live
  ·exact (wf.obj i hi).pP hx (fun b hb=>x.block b ((wf.obj i hi).lt hl hb) (nown b)) rfl rfl
  ·have h0:h.at i = .free∨h.at i = .dead:=by revert hl; cases h.at i <;> simp[aP.live]
   rcases h0 with h0|h0 <;> rw[h0] <;> trivial
end

section
variable {P:Program} {tt:ca} {w w':World} {h h':ai} {c c':eT} {R:Type}

def rq (P:Program) (g:Nat) (args:Array Value) (w:World) (Q:Value→World→Prop):Prop :=
 ∃nx w1,(callFunc g args).run P w = .ok nx w1 ∧
  match nx with
  | .value d=>Q d w1
  | .enter f xs=>Calls P f xs w1 fun e w'=>∃d,e = .returned d∧Q d w'
  | .row row xs=>Rows P row xs w1 Q
  | _=>False

theorem rq.mono {g:Nat} {args:Array Value} {Q Q':Value→World→Prop} (h:rq P g args w Q) (hq:∀d w',Q d w'→Q' d w'):rq P g args w Q':=by
 obtain ⟨nx,w1,h1,h2⟩:=h
 refine ⟨nx,w1,h1,?_⟩
 cases nx <;> simp only at h2 ⊢
 ·exact hq _ _ h2
 ·exact Calls.mono h2 fun e w' ⟨d,e1,q⟩=>⟨d,e1,hq _ _ q⟩
 ·exact Rows.mono h2 fun d w' q=>hq _ _ q

def Spec.Ok (P:Program) (g:Nat) (sp:Spec R):Prop :=
 ∀vs h k r,sp vs h k=some r→∀(w:World) (c:eT) (args:Array Value),WF w h c→bl w h c vs args.toList →
  rq P g args w fun d w'=>∃v h' c',WF w' h' c'∧Ext w h c w' h' c'∧cd w' h' c' v d∧k v h'=some r

def Spec.W3 (P:Program) (g m:Nat) (sp:Spec R):Prop :=
 ∀vs h k r,h.length=m→sp vs h k=some r→∀(w:World) (c:eT) (args:Array Value),WF w h c→bl w h c vs args.toList →
  rq P g args w fun d w'=>∃v h' c',WF w' h' c'∧Ext w h c w' h' c'∧cd w' h' c' v d∧k v h'=some r

def Hx (sp:Spec R):Prop:=∀vs h k k',(∀v,k v h=k' v h)→sp vs h k=sp vs h k'

def R3 (P:Program) (E:Env R):Prop:=∀g b sp,E g=some (b,sp)→Spec.Ok P g sp∧(b=false→mZ.soft g=true→Hx sp)

theorem Hx.same {sp:Spec R} (hs:Hx sp) {vs:List V} {k:V→ai→Option R} {r:R} (hk:sp vs h k=some r):∃k',sp vs h k'=some r∧∀v h',k' v h'=some r→h'=h∧k v h=some r:=by
 classical
 refine ⟨fun v h'=>if h'=h then k v h else none,?_,fun v h' e => ?_⟩
 ·rw[←hk]
  exact hs _ _ _ _ fun v=>by simp
 ·simp only at e
  split at e
  ·exact ⟨‹_›,e⟩
  ·cases e

theorem Spec.W3.ZV {g m:Nat} {sp:Spec R} {fn:Func} (hf:P.funcs[g]? = some fn) (hn:(fn.name == "runtime.NumGoroutine")=false) (hb:fn.body.isNone=false)
  (hs:∀vs h k r,h.length=m→sp vs h k=some r→∀(w:World) (c:eT) (args:Array Value),WF w h c→bl w h c vs args.toList →
   Calls P g args w fun e w'=>∃d,e = .returned d∧∃v h' c',WF w' h' c'∧Ext w h c w' h' c'∧cd w' h' c' v d∧k v h'=some r):Spec.W3 P g m sp:=by
 intro vs h k r ZJ hk w c args wf ra
 refine ⟨.enter g args,w,?_,hs vs h k r ZJ hk w c args wf ra⟩
 have Wg:fn.name ≠ "runtime.NumGoroutine" :=by simpa using hn
 have k9:fn.body≠none:=fun e=>by rw[e]at hb; cases hb
 simp[callFunc,hf,Wg,k9]

theorem Ra:∀ {v:V},v.ids = []→∀ρ,v.kj ρ=v:=by
 have key:(∀v:V,v.ids = []→∀ρ,v.kj ρ=v)∧∀l:List V,V.nv l = []→∀ρ,V.tP ρ l=l:=by
  refine ⟨fun v => ?_,fun l => ?_⟩
  ·refine V.rec (motive_1:=fun v=>v.ids = []→∀ρ,v.kj ρ=v) (motive_2:=fun l=>V.nv l = []→∀ρ,V.tP ρ l=l) ?_ ?_ ?_ ?_ ?_ ?_ ?_ ?_ ?_ ?_ ?_ ?_ ?_ ?_ ?_ ?_ ?_ ?_ ?_ ?_ ?_ ?_ ?_ ?_ ?_ v <;> first
    | (intros; rfl)
    | (intros; simp_all [V.ids,V.nv,V.kj,V.tP]; done)
    | skip
   ·intro T l t ht ρ
    cases t <;> simp_all [V.ids,V.kj,Tok.kj]
  ·refine V.rec_1 (motive_1:=fun v=>v.ids = []→∀ρ,v.kj ρ=v) (motive_2:=fun l=>V.nv l = []→∀ρ,V.tP ρ l=l) ?_ ?_ ?_ ?_ ?_ ?_ ?_ ?_ ?_ ?_ ?_ ?_ ?_ ?_ ?_ ?_ ?_ ?_ ?_ ?_ ?_ ?_ ?_ ?_ ?_ l <;> first
    | (intros; rfl)
    | (intros; simp_all [V.ids,V.nv,V.kj,V.tP]; done)
    | skip
   ·intro T l t ht ρ
    cases t <;> simp_all [V.ids,V.kj,Tok.kj]
 exact fun {v} hv ρ=>key.1 v hv ρ

theorem L9 (h:ai):h.back [] []=h:=by simp[ai.back,ai.u9]

def oe (al:Bool) (id:Nat) (h h':ai):Prop:=h.length≤h'.length∧∀j,(al=true→j≠id)→j<h.length→h.at j = .free→h'.at j = .free

theorem SP {ord:List Nat} (DC:ord.Nodup) (hu:∀i∈ord,Used h i) (hle:ord.length≤h'.length):oe false 0 h (h.back ord h'):=by
 refine ⟨by simp[ai.back,dn],fun j _ hj hf => ?_⟩
 have hn:j∉ord:=fun hm=>(hu j hm).2 hf
 rcases xL (c:=⟨fun _=>none,fun _=>0,⟨fun _ _=>False⟩⟩) (c':=⟨fun _=>none,fun _=>0,⟨fun _ _=>False⟩⟩) DC (fun i hi=>(hu i hi).1) hle j with ⟨i,h1,h2,_⟩|⟨_,_,h3,_⟩|⟨h1,_⟩
 ·unfold jY at h1
  split at h1
  ·rename_i hi
   simp only[List.getD,List.getElem?_eq_getElem hi,Option.getD_some]at h1
   exact (hn (h1▸List.getElem_mem hi)).elim
  ·omega
 ·rw[h3]; exact hf
 ·simp[ai.back,dn]at h1; omega

theorem SQ {st:List V} {a:Act} (r:bl w h c st a.tmps.toList) (x:Operand):cd w h c (ev st x) (a.eval x):=by
 cases x with
 | tmp t =>
  have:=r.getD t undef
  simpa [ev,Act.eval,List.getD,Array.getD_eq_getD_getElem?]using this
 | const v=>exact JS v
 | global g=>exact .undef _
 | func f=>exact .func rfl rfl (by simp) (by simp)

theorem PC {v:V} {d:Value} (r:cd w h c v d):cd w h c (LA v) d:=by
 cases r with
 | sl f eQ lD hc hr vL fA=>exact .sl f eQ lD hc hr (by simp) (by simp)
 | _=>simp only[LA]; constructor <;> assumption

theorem JW {v:V} {d:Value} (r:cd w h c v d):cd w h c (Bm v) d:=by
 cases r with
 | sl f eQ lD hc hr vL fA=>exact .sl f eQ lD hc hr (by simp) (by simp)
 | @agg cs x hl hr =>
  refine .agg (by simpa using hl) fun j v d hv hd => ?_
  rw[List.getElem?_map]at hv
  cases e:cs[j]? with
  | none=>rw[e]at hv; cases hv
  | some u=>rw[e]at hv; simp at hv; subst hv; exact PC (hr j u d e hd)
 | _=>simp only[Bm]; constructor <;> assumption

theorem PD {vs:List V} {ds:List Value} (r:bl w h c vs ds):bl w h c (vs.map Bm) ds:=by
 refine ⟨by simpa using r.1,fun j v d hv hd => ?_⟩
 rw[List.getElem?_map]at hv
 cases e:vs[j]? with
 | none=>rw[e]at hv; cases hv
 | some u=>rw[e]at hv; simp at hv; subst hv; exact JW (r.2 j u d e hd)

theorem OJ {vs:List V} (h:V.nv vs = []) (ρ:Nat→Option Nat):V.tP ρ vs=vs:=by
 have:∀v∈vs,v.kj ρ=v:=fun v hv=>by
  refine Ra ?_ _
  cases hi:v.ids with
  | nil=>rfl
  | cons i l =>
   obtain ⟨j,hj⟩:=List.mem_iff_getElem?.1 hv
   have:i∈V.nv vs:=lG.2 ⟨j,v,hj,by rw[hi]; simp⟩
   rw[h]at this; cases this
 rw[Le]
 conv=>rhs; rw[←List.map_id vs]
 exact List.map_congr_left this

theorem Rb {E:Env R} (hE:R3 P E) (wf:WF w h c) {o:Oper} {cl:Call} (ho:o.op = .call cl) {ρ:Operand→V} {ρ':Operand→Value} (hρ:∀x,cd w h c (ρ x) (ρ' x)) {full:Bool}
  {k:V→ai→Option R} {r:R} (hk:tA tt E full cl ρ h k=some r) :
  ∃g args,(execOp ρ' o).run P w=(callFunc g args).run P w∧rq P g args w fun d w' =>
   ∃v h' c',WF w' h' c'∧Ext w h c w' h' c'∧cd w' h' c' v d∧k v h'=some r∧oe false 0 h h'∧(full=false→h'=h):=by
 obtain ⟨dst,op,type,pos,after,guard⟩:=o
 simp only at ho
 subst ho
 unfold tA at hk
 split at hk <;> try (first|cases hk)
 rename_i f hf
 split at hk <;> try (first|cases hk)
 rename_i g first cap hg
 have rf:=hρ f
 rw[hg]at rf
 generalize hdf:ρ' f=df at rf
 cases rf with
 | @func _ _ _ x y ha hb Zb hrb =>
  have W4:bl w h c (first++cl.args.toList.map ρ++cap) (x++cl.args.map ρ'++y).toList:=by
   have e:(x++cl.args.map ρ'++y).toList=x.toList++cl.args.toList.map ρ'++y.toList:=by simp
   rw[e]
   refine bl.append (bl.append ⟨by simpa using ha,fun j v d hv hd=>Zb j v d hv (by simpa using hd)⟩ (bl.map _ fun z _=>hρ z)) ⟨by simpa using hb,fun j v d hv hd=>hrb j v d hv (by simpa using hd)⟩
  have W5:bl w h c ((first++Gu tt cl.argTypes.toList (cl.args.toList.map ρ)++cap).map Bm) (x++cl.args.map ρ'++y).toList:=by
   have e:(x++cl.args.map ρ'++y).toList=x.toList++cl.args.toList.map ρ'++y.toList:=by simp
   rw[e]
   refine PD (bl.append (bl.append ⟨by simpa using ha,fun j v d hv hd=>Zb j v d hv (by simpa using hd)⟩ (L8 _ (bl.map _ fun z _=>hρ z))) ⟨by simpa using hb,fun j v d hv hd=>hrb j v d hv (by simpa using hd)⟩)
  simp only at hk
  refine ⟨g,x++cl.args.map ρ'++y,by simp[execOp,resolve,hf,hdf,Deferred.ofValue,invoke],?_⟩
  generalize (first++Gu tt cl.argTypes.toList (cl.args.toList.map ρ)++cap).map Bm=ps at *
  generalize first++cl.args.toList.map ρ++cap=vs at *
  split at hk <;> try (first|cases hk)
  ·-- a plain one
   rename_i sp PE
   split at hk
   ·rename_i L7
    have ra:=GG (ord := []) W5
    rw[OJ L7]at ra
    refine rq.mono ((hE g _ sp PE).1 _ _ _ _ hk w _ _ (I0 (ord := []) wf List.nodup_nil) ra) fun d w' ⟨v,h',c',TY,x,rv,mV⟩ => ?_
    obtain ⟨k1,k2,k3⟩:=OB wf (ord := []) (by simp) (by simp) TY x
    split at mV <;> try (first|cases mV)
    refine ⟨v,h,c.back [] h.length c',?_,?_,?_,mV,⟨Nat.le_refl _,fun j _ _ hf=>hf⟩,fun _=>rfl⟩
    ·rw[L9]at k1; exact k1
    ·rw[L9]at k2; exact k2
    ·have:=rv.kj k3
     rw[L9]at this
     rw[Ra]at this
     ·exact this
     ·cases hi:v.ids with
      | nil=>rfl
      | cons i l =>
       have:=rv.uX i (by rw[hi]; simp)
       exact (Nat.not_lt_zero _ this.1).elim
   ·cases full with
    | false=>cases hk
    | true =>
     simp only[cond_true]at hk
     unfold Wx at hk
     split at hk <;> try (first|cases hk)
     rename_i L7
     have ra:=GG (ord := []) (OH wf W5)
     rw[OJ L7]at ra
     refine rq.mono ((hE g _ sp PE).1 _ _ _ _ hk w _ _ (I0 (ord := []) (xM _ _ wf) List.nodup_nil) ra) fun d w' ⟨v,h',c',TY,x,rv,mV⟩ => ?_
     split at mV <;> try (first|cases mV)
     cases hs:v.UD with
     | false=>rw[hs]at mV; cases mV
     | true =>
      rw[hs]at mV
      obtain ⟨hx,hw⟩:=Vl wf x
      exact ⟨v,h,c,hw,hx,W2 hs rv,mV,⟨Nat.le_refl _,fun j _ _ hf=>hf⟩,fun _=>rfl⟩
  ·rename_i sp PE
   cases full with
   | false=>cases hk
   | true =>
    simp only[cond_true]at hk
    cases hso:mZ.soft g with
    | true =>
     rw[hso]at hk
     simp only[cond_true]at hk
     obtain ⟨k',hk1,FK⟩:=((hE g _ sp PE).2 rfl hso).same hk
     refine rq.mono ((hE g _ sp PE).1 _ _ _ _ hk1 w _ _ wf W4) fun d w' ⟨v,h',c',TY,x,rv,mV⟩ => ?_
     obtain ⟨rfl,hk3⟩:=FK _ _ mV
     exact ⟨v,_,c',TY,x,rv,hk3,⟨Nat.le_refl _,fun j _ _ hf=>hf⟩,fun _=>rfl⟩
    | false =>
    rw[hso]at hk
    simp only[cond_false]at hk
    have hui:=W4.uX
    generalize V.nv vs=ids at *
    have hu:∀i∈reach h 64 ids [],Used h i:=GF wf _ _ _ hui (by simp)
    have DC:(reach h 64 ids []).Nodup:=xK h _ _ _ (by simp)
    refine rq.mono ((hE g _ sp PE).1 _ _ _ _ hk w _ _ (I0 wf DC) (GG W4)) fun d w' ⟨v,h',c',TY,x,rv,mV⟩ => ?_
    obtain ⟨k1,k2,k3⟩:=OB wf DC hu TY x
    have hle:(reach h 64 ids []).length≤h'.length:=by
     rcases Nat.eq_zero_or_pos (reach h 64 ids []).length with h0|h0
     ·omega
     ·have:=(x.used ((reach h 64 ids []).length - 1) ⟨by simp[ai.pick]; omega,by
       rw[mI,List.getElem?_eq_getElem (by omega)]
       simp only[ne_eq,wz]
       exact (hu _ (List.getElem_mem _)).2⟩).1
      omega
    exact ⟨_,_,_,k1,k2,rv.kj k3,mV,SP DC hu hle,fun UL=>by cases UL⟩
end

section
variable {tt:ca} {h:ai} {R:Type}

theorem Vm {T:Ty} {x:V} {id ix:Nat} {ob:aP} (hx:Sh id x=true) (dH:id<ix):JP T (h.set ix ob) x=JP T h x:=by
 cases x <;> simp only[JP]
 case row i n =>
  simp only[Sh,decide_eq_true_eq]at hx
  rw[bm _ (by omega)]
 case m0 i z q n =>
  simp only[Sh,decide_eq_true_eq]at hx
  rw[bm _ (by omega)]

theorem SR {x:V} {id ix:Nat} {ob:aP} (hx:Sh id x=true) (dH:id<ix):IS (h.set ix ob) x=IS h x:=by
 cases x <;> simp only[IS]
 case m0 i z q n =>
  simp only[Sh,decide_eq_true_eq]at hx
  rw[bm _ (by omega)]

theorem Rc {e base id ix:Nat} {s x:V} {ob:aP} {k:V→ai→Option R} (hs:Sg base id s=true) (hx:Sh id x=true) (dH:id<ix) :
  js tt e s x (h.set ix ob) id k=js tt e s x h id fun v h'=>k v (h'.set ix ob):=by
 have hc:∀(h:ai) (o1:aP),(h.set ix ob).set id o1=(h.set id o1).set ix ob:=fun h o1=>List.set_comm _ _ (by omega)
 unfold js
 rw[SR hx dH]
 congr 1
 unfold o6
 cases (tt.at e).ty with
 | none=>rfl
 | some T =>
  simp only[Vm hx dH]
  split
  ·cases JP T h x with
   | none=>rfl
   | some m =>
    cases s with
    | aI =>
     simp only[hc]
    | sl T' l tk =>
     simp only
     split
     ·cases tk with
      | no=>rfl
      | nil=>simp only[hc]
      | own i =>
       simp only[Sg,decide_eq_true_eq]at hs
       simp only
       rw[bm _ (by omega)]
       have hci:∀o1:aP,(h.set ix ob).set i o1=(h.set i o1).set ix ob:=fun o1=>List.set_comm _ _ (by omega)
       simp only[hci,hc]
     ·rfl
    | row i n =>
     simp only[Sg,Bool.and_eq_true,decide_eq_true_eq]at hs
     simp only
     rw[bm _ (by omega)]
     have hci:∀o1:aP,(h.set ix ob).set i o1=(h.set i o1).set ix ob:=fun o1=>List.set_comm _ _ (by omega)
     simp only[hci,hc]
    | _=>rfl
  ·rfl

theorem PF {e base id:Nat} {s x:V} {k k':V→ai→Option R} (hb:base≤id) (hs:Sg base id s=true) (hk:∀v h',(∀i,i<base→(h'.at i).rd=(h.at i).rd)→k v h'=k' v h') :
  js tt e s x h id k=js tt e s x h id k':=by
 have h1:∀v o1,k v (h.set id o1)=k' v (h.set id o1):=fun v o1=>hk v _ fun i hi=>by rw[bm _ (by omega)]
 unfold js
 congr 1
 unfold o6
 cases (tt.at e).ty with
 | none=>rfl
 | some T =>
  simp only
  split
  ·cases JP T h x with
   | none=>rfl
   | some m =>
    cases s with
    | aI=>simp only[h1]
    | sl T' l tk =>
     simp only
     split
     ·cases tk with
      | no=>rfl
      | nil=>simp only[h1]
      | own i =>
       simp only[Sg,decide_eq_true_eq]at hs
       simp only
       have h2:h.at i = .tok→∀v o1,k v ((h.set i .dead).set id o1)=k' v ((h.set i .dead).set id o1):=fun ht v o1=>hk v _ fun j hj=>by
        rw[bm _ (by omega)]
        by_cases e:i=j
        ·subst e
         rw[ht,gm]
         split <;> simp[aP.rd,ht]
        ·rw[bm _ e]
       cases ht:h.at i <;> try rfl
       simp only[h2 ht]
     ·rfl
    | row i n =>
     simp only[Sg,Bool.and_eq_true,decide_eq_true_eq]at hs
     have hbi:=Nat.le_of_ble_eq_true hs.1
     have h2:∀v o1,k v ((h.set i .dead).set id o1)=k' v ((h.set i .dead).set id o1):=fun v o1=>hk v _ fun j hj=>by
      rw[bm _ (by omega),bm _ (by omega)]
     simp only[h2]
    | _=>rfl
  ·rfl

theorem PG {o:Op} (ha:lE o=true):∃c,o = .call c∧c.callee = .builtin .append:=by
 unfold lE at ha
 split at ha <;> try (first|cases ha)
 rename_i c
 refine ⟨c,rfl,?_⟩
 revert ha
 split
 ·intro _; assumption
 ·intro h; cases h

theorem By {o:Op} (ha:lE o=true):da tt o = .W:=by
 obtain ⟨c,rfl,hc⟩:=PG ha
 simp only[da,hc]

theorem PH {base:Nat} {o:Op} {ρ ρ':Operand→V} {id:Nat} (h':∀x∈o.operands,ρ x=ρ' x):yw base o ρ id=yw base o ρ' id:=by
 unfold yw
 split
 ·rename_i c
  have ha:∀x∈c.args.toList,ρ x=ρ' x:=fun x hx=>h' x (by simp[Op.operands,Call.operands]at hx ⊢; exact .inr hx)
  split
  ·rename_i s x e
   rw[ha s (by rw[e]; simp),ha x (by rw[e]; simp)]
  ·rfl
 ·rfl

theorem SS {drawn:Option Nat} {o:Op} {ρ ρ':Operand→V} {id:Nat} (h':∀x∈o.operands,ρ x=ρ' x):Qu drawn o ρ id=Qu drawn o ρ' id:=by
 cases drawn with
 | none=>rfl
 | some b=>exact PH h'

theorem ZW {base:Nat} {o:Op} {ρ:Operand→V} {id ix:Nat} {ob:aP} {k:V→ai→Option R} (ha:lE o=true) (hl:yw base o ρ id=true) (dH:id<ix) :
  Lz tt o ρ (h.set ix ob) id k=Lz tt o ρ h id fun v h'=>k v (h'.set ix ob):=by
 obtain ⟨⟨callee,args,argTypes⟩,rfl,hc⟩:=PG ha
 simp only at hc
 subst hc
 simp only[Lz]
 split
 ·rename_i s x t xt _ e et
  simp only[yw,e,Bool.and_eq_true]at hl
  simp only[Rc hl.1 hl.2 dH]
 ·rfl

theorem W6 {base:Nat} {o:Op} {ρ:Operand→V} {id:Nat} {k k':V→ai→Option R} (ha:lE o=true) (hb:base≤id) (hl:yw base o ρ id=true) (hk:∀v h',(∀i,i<base→(h'.at i).rd=(h.at i).rd)→k v h'=k' v h') :
  Lz tt o ρ h id k=Lz tt o ρ h id k':=by
 obtain ⟨⟨callee,args,argTypes⟩,rfl,hc⟩:=PG ha
 simp only at hc
 subst hc
 simp only[Lz]
 split
 ·rename_i s x t xt _ e et
  simp only[yw,e,Bool.and_eq_true]at hl
  simp only[PF hb hl.1 hk]
 ·rfl
end

section
variable {P:Program} {tt:ca} {w w':World} {h h':ai} {c c':eT} {R:Type}

structure GH (w:World) (c:eT) (st:St) (a:Act):Prop where
 wf:WF w st.hp c
 fr:bl w st.hp c st.fr a.tmps.toList

theorem oe.refl (al:Bool) (id:Nat) (h:ai):oe al id h h:=⟨Nat.le_refl _,fun _ _ _ hf=>hf⟩
theorem oe.set {id:Nat} (ob:aP):oe true id h (h.set id ob):=⟨by simp,fun j hj _ hf=>by rw[bm _ (Ne.symm (hj rfl))]; exact hf⟩
theorem oe.weak {al:Bool} {id:Nat} (k:oe false 0 h h'):oe al id h h':=⟨k.1,fun j _ hj hf=>k.2 j (by simp) hj hf⟩

theorem ZX {o:Op} {ρ:Operand→V} {id:Nat} {k0:V→ai→Option R} {r:R} (hk:Lz tt o ρ h id k0=some r) :
  ∃v h',k0 v h'=some r∧oe true id h h'∧∀k:V→ai→Option R,Lz tt o ρ h id k=k v h':=by
 have SU:∀i ob,h.at i ≠ .free→oe true id h (h.set i ob):=fun i ob hi=>⟨by simp,fun j _ _ hf=>by
  rw[bm _ (fun e:i=j=>hi (by rw[e]; exact hf))]; exact hf⟩
 have kset2:∀i ob ob',h.at i ≠ .free→oe true id h ((h.set i ob).set id ob'):=fun i ob ob' hi=>⟨by simp,fun j hj _ hf=>by
  rw[bm _ (Ne.symm (hj rfl)),bm _ (fun e:i=j=>hi (by rw[e]; exact hf))]; exact hf⟩
 cases o <;> simp only[Lz]at hk ⊢ <;> try (first|cases hk)
 case store t x y =>
  split at hk <;> try (first|cases hk)
  rename_i vs hvs
  split at hk <;> try (first|cases hk)
  rename_i hc
  split at hk <;> try (first|cases hk)
  ·rename_i i o hx
   split at hk <;> try (first|cases hk)
   ·rename_i cs tW
    split at hk <;> try (first|cases hk)
    rename_i hl
    exact ⟨_,_,hk,SU i _ (by rw[tW]; simp),fun k=>by simp only[*,if_true]⟩
   rename_i u tW
   split at hk <;> try (first|cases hk)
   exact ⟨_,_,hk,SU i _ (by rw[tW]; simp),fun k=>by simp only[*,if_true]⟩
  ·rename_i i sz j o hx
   split at hk <;> try (first|cases hk)
   rename_i T l tW
   split at hk <;> try (first|cases hk)
   rename_i hs
   split at hk <;> try (first|cases hk)
   rename_i hl
   split at hk <;> try (first|cases hk)
   rename_i z hz
   obtain ⟨hb,hk⟩:=aV hk
   exact ⟨_,_,hk,SU i _ (by rw[tW]; simp),fun k=>by simp only[*,if_true,cC,cond_true]⟩
 case slice t x lo hi mx =>
  cases hb:(lo.isNone&&hi.isNone&&mx.isNone)with
  | false=>rw[hb]at hk; cases hk
  | true =>
   rw[hb,cond_true]at hk
   unfold zT at hk
   split at hk <;> try (first|cases hk)
   rename_i m e i ht hx
   split at hk <;> try (first|cases hk)
   rename_i cs tW
   split at hk <;> try (first|cases hk)
   rename_i T' hT
   split at hk <;> try (first|cases hk)
   rename_i hc
   split at hk <;> try (first|cases hk)
   rename_i l hl
   exact ⟨_,_,hk,SU i _ (by rw[tW]; simp),fun k=>by
    rw[cond_true]
    unfold zT
    simp only[ht,hx,tW,hT]
    rw[if_pos hc,hl]⟩
 case mapUpdate t m x y =>
  split at hk <;> try (first|cases hk)
  rename_i kt vt i ht hx
  split at hk <;> try (first|cases hk)
  rename_i K V' l hm
  split at hk <;> try (first|cases hk)
  rename_i hf
  split at hk <;> try (first|cases hk)
  rename_i kx vx ZH ZO
  exact ⟨_,_,hk,SU i _ (by rw[hm]; simp),fun k=>by simp only[ht,hx,hm,hf,ZH,ZO,if_true]⟩
 case insert t m x y =>
  split at hk <;> try (first|cases hk)
  rename_i kt vt i ht hx
  split at hk <;> try (first|cases hk)
  rename_i K V' l hm
  split at hk <;> try (first|cases hk)
  rename_i hf
  split at hk <;> try (first|cases hk)
  rename_i kx vx ZH ZO
  exact ⟨_,_,hk,SU i _ (by rw[hm]; simp),fun k=>by simp only[ht,hx,hm,hf,ZH,ZO,if_true]⟩
 case next x str =>
  split at hk <;> try (first|cases hk)
  rename_i i hx
  split at hk <;> try (first|cases hk)
  rename_i s pos hit
  cases hb:decide (pos<s.length)with
  | true =>
   rw[hb]at hk
   exact ⟨_,_,hk,SU i _ (by rw[hit]; simp),fun k=>by simp only[hx,hit,hb,cond_true]⟩
  | false =>
   rw[hb]at hk
   exact ⟨_,_,hk, .refl _ _ _,fun k=>by simp only[hx,hit,hb,cond_false]⟩
 case call cl =>
  have happ:∀e s x,js tt e s x h id k0=some r→∃v h',k0 v h'=some r∧oe true id h h'∧∀k:V→ai→Option R,js tt e s x h id k=k v h':=by
   intro e s x hk
   unfold js at hk
   have hk0:=aV hk
   clear hk
   obtain ⟨Q6,hk⟩:=hk0
   unfold o6 at hk
   split at hk <;> try (first|cases hk)
   rename_i T hT
   split at hk <;> try (first|cases hk)
   rename_i hc
   split at hk <;> try (first|cases hk)
   rename_i m hm
   split at hk <;> try (first|cases hk)
   ·obtain ⟨hb,hk⟩:=aV hk
    split at hk
    ·rename_i hr
     exact ⟨_,_,hk,oe.set _,fun k=>by simp only[js,o6,Q6,hT,hc,hm,if_true,hb,cC,cond_true,hr]⟩
    ·rename_i hr
     exact ⟨_,_,hk,oe.set _,fun k=>by simp only[js,o6,Q6,hT,hc,hm,if_true,hb,cC,cond_true,if_neg hr]⟩
   ·split at hk <;> try (first|cases hk)
    rename_i hq
    subst hq
    split at hk <;> try (first|cases hk)
    ·obtain ⟨hb,hk⟩:=aV hk
     exact ⟨_,_,hk,oe.set _,fun k=>by simp only[js,o6,Q6,hT,hc,hm,if_true,hb,cC,cond_true,dite_true]⟩
    ·split at hk <;> try (first|cases hk)
     rename_i hi
     obtain ⟨hb,hk⟩:=aV hk
     exact ⟨_,_,hk,kset2 _ _ _ (by rw[hi]; simp),fun k=>by simp only[js,o6,Q6,hT,hc,hm,hi,if_true,hb,cC,cond_true,dite_true]⟩
   ·split at hk <;> try (first|cases hk)
    rename_i T' l hi
    split at hk <;> try (first|cases hk)
    rename_i hq
    subst hq
    obtain ⟨hb,hk⟩:=aV hk
    exact ⟨_,_,hk,kset2 _ _ _ (by rw[hi]; simp),fun k=>by simp only[js,o6,Q6,hT,hc,hm,hi,if_true,hb,cC,cond_true,dite_true]⟩
  split at hk <;> try (first|cases hk)
  split at hk <;> try (first|cases hk)
  ·obtain ⟨v,h',h1,h2,h3⟩:=happ _ _ _ hk
   exact ⟨v,h',h1,h2,fun k=>by simp[*]⟩
  ·obtain ⟨v,h',h1,h2,h3⟩:=happ _ _ _ hk
   exact ⟨v,h',h1,h2,fun k=>by simp[*]⟩

theorem vO {st:List V} {a:Act} (r:bl w h c st a.tmps.toList) (dst:Option Nat) {v:V} {d:Value} (rv:cd w h c v d):bl w h c (gM st dst v) (a.put dst d).tmps.toList:=by
 cases dst with
 | none=>exact r
 | some j=>simpa [gM,Act.put]using r.set j rv

theorem put_defers (a:Act) (dst:Option Nat) (d:Value):(a.put dst d).defers=a.defers:=by cases dst <;> rfl
theorem DT (T:tq P tt) {E:Env R} (hE:R3 P E) {o:Oper} {st:St} {a:Act} {drawn:Option Nat} {id:Nat} {k:St→Option R} {r:R} (hk:uT tt E drawn id o st k=some r) (dV:GH w c st a)
  (hid:aS tt o=true→id<st.hp.length∧st.hp.at id = .free) {next:Act→World→Prop} {Q:Exit→Act→World→Prop}
  (hn:∀d w' oc c' v,GH w' c' oc (a.put o.dst d)→Ext w st.hp c w' oc.hp c'→oe (aS tt o) id st.hp oc.hp→oc.fr=gM st.fr o.dst v→(da tt o.op ≠ .W→(da tt o.op = .C→(drawn.isNone || !jt E o.op)=false)→∀i,(aS tt o=true→i≠id)→oc.hp.at i=st.hp.at i)→k oc=some r→next (a.put o.dst d) w'):o.wp P a w next Q:=by
 have hρ:=fun x=>SQ dV.fr x
 unfold uT at hk
 unfold Oper.wp
 simp only at hk
 split at hk
 ·rename_i yz
  obtain ⟨v,d,h1,h2,h3⟩:=UP (w:=w) T hρ hk
  rw[h1,Oper.upon_value]
  exact hn d w ⟨gM st.fr o.dst v,st.hp⟩ c v ⟨dV.wf,vO dV.fr _ h2⟩ (.refl _ _ _) (.refl _ _ _) rfl (fun _ _ _ _=>rfl) h3
 ·rename_i yz
  obtain ⟨v,d,h1,h2,h3⟩:=UX T dV.wf hρ hk
  rw[h1,Oper.upon_value]
  exact hn d w ⟨gM st.fr o.dst v,st.hp⟩ c v ⟨dV.wf,vO dV.fr _ h2⟩ (.refl _ _ _) (.refl _ _ _) rfl (fun _ _ _ _=>rfl) h3
 ·rename_i yz
  have ZY:aS tt o=true:=by simp[aS,yz]
  obtain ⟨ob,mk,h1,_,h2⟩:=U8 T dV.wf hρ hk
  obtain ⟨d,w',c',g1,g2,g3,g4⟩:=h2 id (hid ZY).1 (hid ZY).2
  rw[g1,Oper.upon_value]
  exact hn d w' ⟨gM st.fr o.dst (mk id),st.hp.set id ob⟩ c' (mk id) ⟨g2,vO (dV.fr.mono g3) _ g4⟩ g3 (by rw[ZY]; exact oe.set _) rfl (fun _ _ i hi=>bm _ (Ne.symm (hi ZY))) h1
 ·rename_i yz
  have ZY:aS tt o=true:=by simp[aS,yz]
  have hk:Qu drawn o.op (ev st.fr) id=true∧Lz tt o.op (ev st.fr) st.hp id (fun v h=>k ⟨gM st.fr o.dst v,h⟩)=some r:=by
   revert hk
   cases Qu drawn o.op (ev st.fr) id <;> simp
  obtain ⟨_,hk⟩:=hk
  obtain ⟨v0,h0,hk0,hkeep,ZZ⟩:=ZX hk
  have FK:=ZZ fun v h'=>open Classical in if h'=h0 then k ⟨gM st.fr o.dst v,h'⟩else none
  simp only[if_true]at FK
  obtain ⟨v,h',d,w',c',nx,g1,g2,g3,g4,g5,g6⟩:=Vh T dV.wf hρ (hid ZY).1 (hid ZY).2 (FK.trans hk0)
  split at g6 <;> try (first|cases g6)
  rename_i he
  subst he
  rw[g1]
  rcases g2 with rfl|⟨rfl,rfl⟩
  ·rw[Oper.upon_value]
   exact hn d w' ⟨gM st.fr o.dst v,h'⟩ c' v ⟨g3,vO (dV.fr.mono g4) _ g5⟩ g4 (by rw[ZY]; exact hkeep) rfl (fun hC=>(hC yz).elim) g6
  ·rw[Oper.upon_skip]
   exact hn undef w' ⟨gM st.fr o.dst v,h'⟩ c' v ⟨g3,vO (dV.fr.mono g4) _ g5⟩ g4 (by rw[ZY]; exact hkeep) rfl (fun hC=>(hC yz).elim) g6
 ·rename_i yz
  split at hk <;> try (first|cases hk)
  rename_i cl GD
  obtain ⟨g,args,h1,nx,w1,h2,h3⟩:=Rb hE dV.wf GD hρ hk
  rw[h1,h2]
  have fin:∀d w',(∃v h' c',WF w' h' c'∧Ext w st.hp c w' h' c'∧cd w' h' c' v d∧k ⟨gM st.fr o.dst v,h'⟩=some r∧oe false 0 st.hp h'∧((drawn.isNone || !jt E o.op)=false→h'=st.hp))→next (a.put o.dst d) w':=by
   rintro d w' ⟨v,h',c',q1,q2,q3,q4,q5,q6⟩
   exact hn d w' ⟨gM st.fr o.dst v,h'⟩ c' v ⟨q1,vO (dV.fr.mono q2) _ q3⟩ q2 q5.weak rfl (fun _ hd i _=>by rw[q6 (hd yz)]) q4
  cases nx <;> simp only at h3
  ·rw[Oper.upon_value]; exact fin _ _ h3
  ·rw[Oper.upon_enter]
   exact Calls.mono h3 fun e w' ⟨d,e1,q⟩=>by subst e1; exact fin d w' q
  ·rw[Oper.upon_row]
   exact Rows.mono h3 fun d w' q=>fin d w' q
 ·cases hk
 ·cases hk
end

section
variable {P:Program} {tt:ca} {w w':World} {h h':ai} {c c':eT} {R:Type}

theorem W7 {fr:List V} {d:Nat} {v:V} (h:fr.getD d .undef=v) (hv:v ≠ .undef):fr.set d v=fr:=by
 have hd:d<fr.length:=by
  rcases Nat.lt_or_ge d fr.length with hl|hl
  ·exact hl
  ·simp[List.getD,List.getElem?_eq_none hl]at h; exact (hv h.symm).elim
 have e:fr[d]=v:=by simpa [List.getD,List.getElem?_eq_getElem hd]using h
 rw[←e]
 exact List.set_getElem_self hd

theorem wh {all:List Oper} {o:Oper} {st:St} {run skip:St→Option R}:pR all o st run skip =
  match o.guard with
  | none=>run st
  | some (j,want) =>
   match (all[j]?).bind (·.dst)with
   | none=>none
   | some d=>match st.fr.getD d .undef with | .bool b=>if b=want then run st else skip st | .tuple []=>skip st|_=>none:=by
 unfold pR
 cases o.guard with
 | none=>rfl
 | some jw =>
  obtain ⟨j,want⟩:=jw
  simp only
  cases (all[j]?).bind (·.dst)with
  | none=>rfl
  | some d =>
   simp only
   cases hb:st.fr.getD d .undef with
   | bool b =>
    have e:(⟨st.fr.set d (.bool b),st.hp⟩:St)=st:=by rw[W7 hb (by simp)]
    cases b <;> cases want <;> simp[e]
   | tuple vs=>cases vs <;> rfl
   | _=>rfl

theorem Bz {ops:Array Oper} {o:Oper} {st:St} {a:Act} (dV:GH w c st a) {run skip:St→Option R} {r:R} (hk:pR ops.toList o st run skip=some r) :
  (Region.wanted o (yielded ops a.tmps)=true∧run st=some r)∨(Region.wanted o (yielded ops a.tmps)=false∧skip st=some r):=by
 rw[wh]at hk
 unfold Region.wanted
 split at hk
 ·rename_i hg; simp only[hg]; exact .inl ⟨trivial,hk⟩
 ·rename_i j want hg
  simp only[hg]
  split at hk <;> try (first|cases hk)
  rename_i d hd
  have hl:∀v,st.fr.getD d .undef=v→v ≠ .undef→d<st.fr.length:=fun v hv gX=>by
   rcases Nat.lt_or_ge d st.fr.length with hl|hl
   ·exact hl
   ·simp[List.getD,List.getElem?_eq_none hl]at hv; exact (gX hv.symm).elim
  have key:∀v,st.fr.getD d .undef=v→v ≠ .undef→∃x,a.tmps[d]? = some x∧cd w st.hp c v x:=fun v hb gX=>by
   have hl:=hl v hb gX
   have R2:d<a.tmps.size:=by rw[←(by simpa using dV.fr.1:st.fr.length=a.tmps.size)]; exact hl
   exact ⟨a.tmps[d],Array.getElem?_eq_getElem R2,dV.fr.2 d v a.tmps[d] (by rw[List.getElem?_eq_getElem hl]; simpa [List.getD,List.getElem?_eq_getElem hl]using hb) (by simp)⟩
  have UL:(ops[j]?).bind (·.dst)=some d:=by simpa using hd
  split at hk <;> try (first|cases hk)
  ·rename_i b hb
   obtain ⟨x,hx,rv⟩:=key _ hb (by simp)
   have hy:yielded ops a.tmps j=some b:=by
    unfold yielded
    rw[UL]
    simp only[Option.bind_some,hx]
    cases rv
    rfl
   rw[hy]
   split at hk
   ·rename_i hw; subst hw; exact .inl ⟨by simp,hk⟩
   ·rename_i hw; exact .inr ⟨by simpa using hw,hk⟩
  ·rename_i hb
   obtain ⟨x,hx,rv⟩:=key _ hb (by simp)
   have hy:yielded ops a.tmps j=none:=by
    unfold yielded
    rw[UL]
    simp only[Option.bind_some,hx]
    cases rv
    rfl
   rw[hy]
   exact .inr ⟨by simp,hk⟩

theorem I3:cd w h c (.tuple []) undef := .tuple rfl (by simp)

def W8 (w:World) (c:eT) (st:St) (a:Act) (k:St→Option R) (r:R) (K:Act→World→Prop):Prop :=
 ∀a' w' oc c',GH w' c' oc a'→Ext w st.hp c w' oc.hp c'→a'.defers=a.defers→k oc=some r→K a' w'

def Slots (tt:ca) (rest:List Oper) (id:Nat) (h:ai):Prop:=∀j,id≤j→j<id+(rest.filter (aS tt)).length→j<h.length∧h.at j = .free

theorem GI (T:tq P tt) {E:Env R} (hE:R3 P E) {ops:Array Oper} {k:St→Option R} {r:R} {Q:Exit→Act→World→Prop}:∀(rest:List Oper) (n id:Nat) (w:World) (c:eT) (st:St) (a:Act),
  ops.toList.drop n=rest→LC tt E none ops.toList rest id st k=some r→GH w c st a→Slots tt rest id st.hp→W8 w c st a k r (Q .normal)→wpOps P ops Q (List.range' n rest.length) a w
 | [],n,id,w,c,st,a,_,hk,dV,_,go=>go a w st c dV (.refl _ _ _) rfl hk
 | o::rest,n,id,w,c,st,a,hd,hk,dV,hs,go=>by
  have hn:ops[n]? = some o:=by
   have:(ops.toList.drop n)[0]? = some o:=by rw[hd]; rfl
   rw[List.getElem?_drop]at this
   simpa using this
  have UL:ops.toList.drop (n+1)=rest:=by
   have:(ops.toList.drop n).drop 1=rest:=by rw[hd]; rfl
   rwa [List.drop_drop]at this
  rw[List.length_cons,List.range'_succ,wpOps_cons]
  unfold wpOp
  simp only[hn]
  simp only[LC,Bn]at hk
  have hsl:∀h',oe (aS tt o) id st.hp h'→Slots tt rest (if aS tt o then id+1 else id) h':=by
   intro h' kp j h1 h2
   cases ha:aS tt o with
   | true =>
    rw[ha]at h1 h2 kp
    simp only[if_true]at h1 h2
    obtain ⟨g1,g2⟩:=hs j (by omega) (by rw[List.filter_cons_of_pos ha,List.length_cons]; omega)
    exact ⟨Nat.lt_of_lt_of_le g1 kp.1,kp.2 j (fun _=>by omega) g1 g2⟩
   | false =>
    rw[ha]at h1 h2 kp
    simp only[Bool.false_eq_true,if_false]at h1 h2
    obtain ⟨g1,g2⟩:=hs j (by omega) (by rw[List.filter_cons_of_neg (by simp[ha])]; omega)
    exact ⟨Nat.lt_of_lt_of_le g1 kp.1,kp.2 j (fun h=>by cases h) g1 g2⟩
  rcases Bz dV hk with ⟨hw,hk⟩|⟨hw,hk⟩
  ·rw[if_pos hw]
   refine .inl (DT T hE hk dV (fun ha=>hs id (Nat.le_refl _) (by rw[List.filter_cons_of_pos ha,List.length_cons]; omega)) fun d w' oc c' v SV x kp _ _ mV => ?_)
   refine GI T hE rest (n+1) _ w' c' oc _ UL mV SV (hsl _ kp) fun a2 w2 xn c2 s2 x2 d2 k2 => ?_
   exact go a2 w2 xn c2 s2 (x.trans x2) (d2.trans (put_defers _ _ _)) k2
  ·rw[if_neg (by simp[hw])]
   refine GI T hE rest (n+1) _ w c ⟨gM st.fr o.dst (.tuple []),st.hp⟩ _ UL hk ⟨dV.wf,vO dV.fr _ I3⟩ (hsl _ (.refl _ _ _)) fun a2 w2 xn c2 s2 x2 d2 k2 => ?_
   exact go a2 w2 xn c2 s2 x2 (d2.trans (put_defers _ _ _)) k2

theorem Lg {n i:Nat}:ai.at (h++List.replicate n .free) i=h.at i∨(h.length≤i∧ai.at (h++List.replicate n .free) i = .free):=by
 rcases Nat.lt_or_ge i h.length with hi|hi
 ·exact .inl (fp hi)
 ·rcases Nat.lt_or_ge (i - h.length) n with hj|hj
  ·refine .inr ⟨hi,?_⟩
   rw[eP hi]
   simp[ai.at,List.getD,List.getElem?_replicate,hj]
  ·refine .inl ?_
   rw[eP hi]
   have h1:¬(i - h.length<n):=by omega
   have h2:¬(i<h.length):=by omega
   simp[ai.at,List.getD,List.getElem?_replicate,h1,List.getElem?_eq_none hi]

theorem PI {i:Nat} (hi:h.length≤i):h.at i = .dead:=by simp[ai.at,List.getD,List.getElem?_eq_none hi]

theorem Ma {n b x:Nat}:oF (h++List.replicate n .free) c b x↔oF h c b x:=by
 constructor
 ·rintro ⟨i,f,h1,h2,h3⟩
  rcases Lg (h:=h) (n:=n) (i:=i)with e|⟨_,e⟩
  ·exact ⟨i,f,h1,e▸h2,h3⟩
  ·rw[e]at h2; cases h2
 ·rintro ⟨i,f,h1,h2,h3⟩
  rcases Lg (h:=h) (n:=n) (i:=i)with e|⟨hi,e⟩
  ·exact ⟨i,f,h1,e.symm▸h2,h3⟩
  ·rw[PI hi]at h2; cases h2

theorem nA (n:Nat):Ext w h c w (h++List.replicate n .free) c where
 os:=rfl
 tape:=rfl
 output:=rfl
 size:=Nat.le_refl _
 used:=fun i hi=>⟨by simp; have:=hi.1; omega,by
  rw[fp hi.1]; exact hi.2⟩
 same:=fun i hi hd=>by
  rw[fp hi.1]at hd ⊢
  exact ⟨Ac (E7 hi.2 hd) (fun _ _ _ => .inr trivial),rfl,rfl⟩
 cell:=fun _ _ _ _=>rfl
 block:=fun _ _ _=>rfl
 tp:=fun b x _ ho=>Ma.1 ho
 ext:=rfl
 arr:=fun b arr e fz hb=>⟨arr,fz,hb,rfl⟩

theorem DU (wf:WF w h c) (n:Nat):WF w (h++List.replicate n .free) c where
 lay:=wf.nz (nA n)
 uU:=fun b x ho=>wf.uU b x (Ma.1 ho)
 la:=wf.la
 obj:=fun i hi=>by
  rcases Lg (h:=h) (n:=n) (i:=i)with e|⟨_,e⟩
  ·rw[e]
   rcases Nat.lt_or_ge i h.length with hl|hl
   ·have ho:=wf.obj i hl
    by_cases hv:(h.at i).live
    ·exact ho.pP (nA n) (fun _ _=>rfl) rfl rfl
    ·have h0:h.at i = .free∨h.at i = .dead:=by revert hv; cases h.at i <;> simp[aP.live]
     rcases h0 with h0|h0 <;> rw[h0] <;> trivial
   ·rw[PI hl]; trivial
  ·rw[e]; trivial
 inj:=fun i j b hi hj h1 h2=>by
  have hl:∀i,(ai.at (h++List.replicate n .free) i).live→(h.at i).live:=fun i hi=>by
   rcases Lg (h:=h) (n:=n) (i:=i)with e|⟨_,e⟩
   ·rw[e]at hi; exact hi
   ·rw[e]at hi; exact hi.elim
  exact wf.inj i j b (hl i hi) (hl j hj) h1 h2

theorem PJ (T:tq P tt) {E:Env R} (hE:R3 P E) {id:Nat} {ops:Array Oper} {k:St→Option R} {r:R} {Q:Exit→Act→World→Prop} {st:St} {a:Act}
  (hk:E4 tt E ops.toList false st k=some r) (dV:GH w c st a) (go:W8 w c st a k r (Q .normal)):(Code.region id ops false).wp P Q a w:=by
 refine wp_region ?_
 simp only[E4,Bool.false_eq_true,if_false]at hk
 have:=GI T hE (ops:=ops) (Q:=Q) ops.toList 0 st.hp.length w c _ a rfl hk ⟨DU dV.wf _,dV.fr.mono (nA _)⟩ ?_ ?_
 ·rw[List.range_eq_range']
  simpa using this
 ·intro j h1 h2
  refine ⟨by simp; omega,?_⟩
  rw[eP h1]
  have:j - st.hp.length<(ops.toList.filter (aS tt)).length:=by omega
  simp[ai.at,List.getD,List.getElem?_replicate,this]
 ·exact fun a2 w2 xn c2 s2 x2 d2 k2=>go a2 w2 xn c2 s2 ((nA _).trans x2) d2 k2
end

section
variable {P:Program} {tt:ca} {w w':World} {h h':ai} {c c':eT} {R:Type}

def one (tt:ca) (E:Env R) (S:Option (Bool×List Nat)) (base:Nat) (all:List Oper) (o:Oper) (id:Nat) (st:St) (k:St→Option R):Option R :=
 pR all o st (fun st=>bif Gv tt E base S all o (ev st.fr) st.hp then uT tt E (Wf tt S base o) id o st k else none) (fun st=>k ⟨gM st.fr o.dst (.tuple []),st.hp⟩)

abbrev qA:=Nat×Oper×Nat

def DE (tt:ca) (E:Env R) (S:Option (Bool×List Nat)) (base:Nat) (all:List Oper):List qA→St→(St→Option R)→Option R
 | [],st,k=>k st
 | x::rest,st,k=>one tt E S base all x.2.1 x.2.2 st fun st=>DE tt E S base all rest st k

def number (tt:ca):List Oper→Nat→Nat→List qA
 | [],_,_ => []
 | o::rest,i,id=>(i,o,id)::number tt rest (i+1) (if aS tt o then id+1 else id)

theorem PK {E:Env R} {base:Nat} {all:List Oper}:∀(l:List Oper) (i id:Nat) (st:St) (k:St→Option R),
  LC tt E (some base) all l id st k=DE tt E none base all (number tt l i id) st k
 | [],_,_,_,_=>rfl
 | o::l,i,id,st,k=>by
  simp only[LC,Bn,number,DE,one,Gv,Wf,cond_true]
  congr 1
  ·funext st
   congr 1
   funext st
   exact PK l _ _ _ _
  ·funext st
   exact PK l _ _ _ _

theorem Lh {E:Env R} {A:Bool×List Nat} {base:Nat} {all:List Oper}:∀(l:List Oper) (i id:Nat) (st:St) (k:St→Option R),
  Qx tt E base A all l id st k=DE tt E (some A) base all (number tt l i id) st k
 | [],_,_,_,_=>rfl
 | o::l,i,id,st,k=>by
  simp only[Qx,Bn,number,DE,one]
  congr 1
  ·funext st
   congr 1
   congr 1
   funext st
   exact Lh l _ _ _ _
  ·funext st
   exact Lh l _ _ _ _

theorem PL {S:Option (Bool×List Nat)} {base:Nat} {o:Oper} (h:da tt o.op ≠ .W):Wf tt S base o=some base:=by
 unfold Wf
 split
 ·split
  ·rename_i hc; exact (h hc).elim
  ·rfl
 ·rfl
theorem Rd {S:Option (Bool×List Nat)} {base:Nat} {o:Oper} (h:S.map (·.1)≠some true):Wf tt S base o=some base:=by
 unfold Wf
 split
 ·exact (h rfl).elim
 ·rfl

structure T5 where
 dst:Option Nat
 v:V
 put:Option (Nat×aP)

def T5.hp (e:T5) (h:ai):ai:=match e.put with|none=>h|some (i,ob)=>h.set i ob
def Z0 (st:St) (e:T5):St:=⟨gM st.fr e.dst e.v,e.hp st.hp⟩

theorem OK {fr:List V} {dst:Option Nat} {v:V} {t:Nat} (h:dst≠some t):(gM fr dst v).getD t .undef=fr.getD t .undef:=by
 cases dst with
 | none=>rfl
 | some d =>
  have:d≠t:=fun e=>h (by rw[e])
  simp[gM,List.getD,List.getElem?_set_ne this]

theorem Vn {fr:List V} {x y:Option Nat} {u v:V} (h:∀d,x=some d→y≠some d):gM (gM fr x u) y v=gM (gM fr y v) x u:=by
 cases x with
 | none=>rfl
 | some d =>
  cases y with
  | none=>rfl
  | some e =>
   have:d≠e:=fun he=>h d rfl (by rw[he])
   simp only[gM]
   exact List.set_comm _ _ this

theorem Ad {fr Vo:List V} {o:Oper} {all:List Oper} (h:∀t∈looks all o,Vo.getD t .undef=fr.getD t .undef):∀x∈o.op.operands,ev Vo x=ev fr x:=by
 intro x hx
 cases x with
 | tmp t=>exact h t (List.mem_append_left _ (List.mem_filterMap.2 ⟨.tmp t,by simpa using hx,rfl⟩))
 | _=>rfl

theorem Mb {fr Vo:List V} {hp Wl:ai} {o:Oper} {all:List Oper} (h:∀t∈looks all o,Vo.getD t .undef=fr.getD t .undef) {run skip run' Mc:St→Option R}
  (hr:run' ⟨Vo,Wl⟩=run ⟨fr,hp⟩) (hs:Mc ⟨Vo,Wl⟩=skip ⟨fr,hp⟩):pR all o ⟨Vo,Wl⟩ run' Mc=pR all o ⟨fr,hp⟩ run skip:=by
 rw[wh,wh]
 cases hg:o.guard with
 | none=>exact hr
 | some jw =>
  obtain ⟨j,want⟩:=jw
  simp only
  cases hd:(all[j]?).bind (·.dst)with
  | none=>rfl
  | some d =>
   have:=h d (by
    refine List.mem_append_right _ ?_
    simp only[hg,hd]
    simp)
   simp only[this,hr,hs]

theorem Re {o:Op} {ρ:Operand→V} {lim:Option Nat} {h2:ai} (e:∀i∈qY o ρ,Dc lim i=true→(h2.at i).rd=(h.at i).rd) {k:V→Option R}:UC tt o ρ h2 lim k=UC tt o ρ h lim k:=by
 have e':∀i∈qY o ρ,Dc lim i=true→h2.at i=h.at i∨((h2.at i = .tok∨h2.at i = .dead∨h2.at i = .free)∧(h.at i = .tok∨h.at i = .dead∨h.at i = .free)):=fun i hm hi=>Q9 (e i hm hi)
 clear e
 cases o <;> simp only[UC]
 case load t x =>
  split
  ·rename_i i o hx
   split
   ·rename_i hl
    rcases e' i (by simp[qY,hx,V.ids]) hl with h1|⟨h1|h1|h1,g2|g2|g2⟩ <;> (first|(simp only[h1,g2]; done)|(simp only[h1]; done)|rfl|(simp only[h1,g2]; (repeat' split) <;> first|rfl|contradiction|simp_all))
   ·rfl
  ·rfl
  ·rename_i i _ _ _ hx
   split
   ·rename_i hl
    rcases e' i (by simp[qY,hx,V.ids]) hl with h1|⟨h1|h1|h1,g2|g2|g2⟩ <;> (first|(simp only[h1,g2]; done)|(simp only[h1]; done)|(simp only[h1,g2]; (repeat' split) <;> first|rfl|contradiction|simp_all))
   ·rfl
  ·rfl
 case lookup t x ix ok =>
  split
  ·rename_i kt vt i _ hx
   split
   ·rename_i hl
    rcases e' i (by simp[qY,hx,V.ids]) hl with h1|⟨h1|h1|h1,g2|g2|g2⟩ <;> (first|simp only[h1,g2]|simp only[h1])
   ·rfl
  ·rfl
 case convert s d x =>
  split
  ·rename_i i _ _ _ hx
   split
   ·rename_i hl
    rcases e' i (by simp[qY,hx,V.ids]) hl with h1|⟨h1|h1|h1,g2|g2|g2⟩ <;> (first|(simp only[h1,g2]; done)|(simp only[h1]; done)|(simp only[h1,g2]; (repeat' split) <;> first|rfl|contradiction|simp_all))
   ·rfl
  ·rfl
  ·rfl
  ·rfl

def xN (S:Option (Bool×List Nat)) (E:Env R) (all:List Oper) (tt:ca) (base:Nat) (x:Oper) (st xn:St):Prop :=
 (∀t∈looks all x,xn.fr.getD t .undef=st.fr.getD t .undef)∧(da tt x.op = .R→∀i,i<base→(∀A,S=some (true,A)→Qv tt E all x=true→i∈A)→(∀A,S=some (false,A)→On tt E all x=true→i∉A)→(xn.hp.at i).rd=(st.hp.at i).rd)

def turns (tt:ca) (E:Env R) (o:Op):Prop:=(cr tt E o = .W∧lE o=false)∨(cr tt E o = .F∧gl E o=false)

def Kept (S:Option (Bool×List Nat)) (tt:ca) (E:Env R) (all:List Oper) (base:Nat) (o:Oper) (h h':ai):Prop :=
 (∀i,i<base→(h'.at i).rd=(h.at i).rd)∨((turns tt E o.op∨(S.map (·.1)=some true∧lE o.op=true))∧(cr tt E o.op = .F→∀A,S=some (true,A)→∀i∈A,(h'.at i).rd=(h.at i).rd)∧(Pr all o=true→∀A,S=some (false,A)→∀i,i∉A→(h'.at i).rd=(h.at i).rd))

theorem lH {E:Env R} {o:Op} (h:da tt o ≠ .C):cr tt E o=da tt o:=by
 unfold cr
 split
 ·rename_i hc; exact (h hc).elim
 ·rfl

def calm (a:Cls):Bool:=match a with | .P | .R | .A=>true|_=>false

theorem NJ {o:Op} {ρ ρ':Operand→V} (h:∀x∈o.operands,ρ' x=ρ x):qY o ρ'=qY o ρ:=by
 cases o <;> simp only[qY] <;> rw[h _ (by simp[Op.operands])]
theorem Md {o:Op} {ρ ρ':Operand→V} (h:∀x∈o.operands,ρ' x=ρ x):wo o ρ'=wo o ρ:=by
 cases o <;> simp only[wo] <;> rw[h _ (by simp[Op.operands])]
theorem NK {o:Op} {ρ ρ':Operand→V} {hp:ai} (h:∀x∈o.operands,ρ' x=ρ x):gu o ρ' hp=gu o ρ hp:=by
 unfold gu
 split
 ·rename_i cl
  split
  ·rename_i f hf
   have e1:ρ' f=ρ f:=h f (by simp[Op.operands,Call.operands,hf])
   have e2:cl.args.toList.map ρ'=cl.args.toList.map ρ:=List.map_congr_left fun z hz=>h z (by simp[Op.operands,Call.operands]; exact .inr (by simpa using hz))
   rw[e1,e2]
  ·rfl
 ·rfl
theorem OL {E:Env R} {base:Nat} {S:Option (Bool×List Nat)} {all:List Oper} {x:Oper} {fr Vo:List V} {hp:ai} (h:∀t∈looks all x,Vo.getD t .undef=fr.getD t .undef):Gv tt E base S all x (ev Vo) hp=Gv tt E base S all x (ev fr) hp:=by
 cases S with
 | none=>rfl
 | some A=>obtain ⟨m,A⟩:=A; cases m <;> simp only[Gv] <;> rw[NJ (Ad h),Md (Ad h)] <;> rw[NK (Ad h)]
theorem W9 {E:Env R} {base:Nat} {S:Option (Bool×List Nat)} {all:List Oper} {x:Oper} {fr Vo:List V} {hp Wl:ai} (hc:calm (da tt x.op)=true) (h:∀t∈looks all x,Vo.getD t .undef=fr.getD t .undef):Gv tt E base S all x (ev Vo) Wl=Gv tt E base S all x (ev fr) hp:=by
 rw[OL (fr:=fr) h]
 cases S with
 | none=>rfl
 | some A =>
  obtain ⟨m,A⟩:=A
  cases m <;> simp only[Gv] <;> revert hc <;> cases da tt x.op <;> simp[calm]

theorem T6 {E:Env R} {S:Option (Bool×List Nat)} {base:Nat} {all:List Oper} {x:Oper} {id:Nat} {st:St} {k0:St→Option R} {r:R} (hc:calm (da tt x.op)=true) (hk:one tt E S base all x id st k0=some r) :
  ∃e:T5,e.dst=x.dst∧(∀i ob,e.put=some (i,ob)→i=id∧da tt x.op = .A)∧k0 (Z0 st e)=some r∧∀xn,xN S E all tt base x st xn→∀k,one tt E S base all x id xn k=k (Z0 xn e):=by
 unfold one at hk ⊢
 -- the guard says the same
 have hgu:∀xn,xN S E all tt base x st xn→∀(run skip:St→Option R),pR all x xn run skip=pR all x st (fun _=>run xn) (fun _=>skip xn):=by
  intro xn ha run skip
  obtain ⟨fr,hp⟩:=st
  obtain ⟨fr2,hp2⟩:=xn
  exact Mb ha.1 rfl rfl
 have WW:∀run skip:St→Option R,(∀run' Mc:St→Option R,pR all x st run' Mc=run' st)∨(∀run' Mc:St→Option R,pR all x st run' Mc=Mc st)∨pR all x st run skip=none:=by
  intro run skip
  simp only[wh]
  cases x.guard with
  | none=>exact .inl fun _ _=>rfl
  | some jw =>
   obtain ⟨j,want⟩:=jw
   simp only
   cases (all[j]?).bind (·.dst)with
   | none=>exact .inr (.inr rfl)
   | some d =>
    simp only
    cases st.fr.getD d .undef with
    | bool b=>by_cases hb:b=want <;> simp[hb]
    | tuple vs =>
     cases vs with
     | nil=>exact .inr (.inl fun _ _=>rfl)
     | cons _ _=>exact .inr (.inr rfl)
    | _=>exact .inr (.inr rfl)
 rcases WW _ _ with hg|hg|hg
 ·rw[hg]at hk
  obtain ⟨hS,hk⟩:Gv tt E base S all x (ev st.fr) st.hp=true∧uT tt E (Wf tt S base x) id x st k0=some r:=by
   cases hS:Gv tt E base S all x (ev st.fr) st.hp with
   | true=>rw[hS]at hk; exact ⟨rfl,hk⟩
   | false=>rw[hS]at hk; cases hk
  have hnW:da tt x.op ≠ .W:=fun e=>by rw[e]at hc; cases hc
  rw[PL hnW]at hk ⊢
  have hS2:∀xn,xN S E all tt base x st xn→Gv tt E base S all x (ev xn.fr) xn.hp=true:=fun xn ha=>by rw[←hS]; exact W9 hc ha.1
  unfold uT at hk
  simp only at hk
  split at hk
  ·rename_i yz
   obtain ⟨v,h1,h2⟩:=ZR hk
   refine ⟨⟨x.dst,v,none⟩,rfl,by simp,h1,fun xn ha k => ?_⟩
   rw[hgu xn ha,hg,hS2 xn ha,cond_true]
   simp only[uT,yz]
   rw[OD (Ad ha.1),h2]
   rfl
  ·rename_i yz
   obtain ⟨v,h1,h2⟩:=ZT hk
   refine ⟨⟨x.dst,v,none⟩,rfl,by simp,h1,fun xn ha k => ?_⟩
   rw[hgu xn ha,hg,hS2 xn ha,cond_true]
   simp only[uT,yz]
   rw[OE (Ad ha.1),Re (h:=st.hp) fun i hm hi=>ha.2 yz i (by simpa [Dc]using hi) (fun A hA hf => ?_) fun A hA hf => ?_,h2 _ fun i hi=>rfl]
   ·rfl
   ·subst hA
    simp only[Gv,yz,hf,Bool.not_true,Bool.false_or,List.all_eq_true]at hS
    simpa using hS i hm
   ·subst hA
    simp only[Gv,yz,hf,Bool.not_true,Bool.false_or,List.all_eq_true]at hS
    simpa using hS i hm
  ·rename_i yz
   obtain ⟨ob,mk,h1,h2⟩:=ZU hk
   refine ⟨⟨x.dst,mk id,some (id,ob)⟩,rfl,by simp[yz],h1,fun xn ha k => ?_⟩
   rw[hgu xn ha,hg,hS2 xn ha,cond_true]
   simp only[uT,yz]
   rw[OF (Ad ha.1),h2]
   rfl
  all_goals (rename_i yz; rw[yz]at hc; cases hc)
 ·rw[hg]at hk
  refine ⟨⟨x.dst, .tuple [],none⟩,rfl,by simp,hk,fun xn ha k => ?_⟩
  rw[hgu xn ha,hg]
  rfl
 ·rw[hg]at hk; cases hk

theorem apart_spec {all:List Oper} {x y:Oper} (h:tQ all x y=true) :
  (∀d,x.dst=some d→d∉looks all y)∧(∀d,x.dst=some d→y.dst≠some d)∧(∀d,y.dst=some d→d∉looks all x):=by
 refine ⟨fun d hd => ?_,fun d hd => ?_,fun d hd => ?_⟩ <;> simp[tQ,hd]at h
 ·exact h.1.1
 ·exact h.1.2
 ·exact h.2

theorem BA {fr:List V} {c:Value} {g:Nat} {a b:List V} (h:ev fr (.const c) = .func g a b):False:=by
 simp only[ev]at h
 unfold ofConst at h
 split at h
 ·cases h
 ·unfold DL at h
  split at h <;> (try split at h) <;> cases h


theorem GJ {i:Nat}:∀(n:Nat) (todo seen:List Nat),i∈seen→i∈reach h n todo seen
 | 0,_,_,hi=>hi
 | _+1, [],_,hi=>hi
 | n+1,j::todo,seen,hi=>by
  unfold reach
  split
  ·exact GJ n _ _ hi
  ·exact GJ n _ _ (by simp[hi])
theorem E9 {i:Nat} {ob:aP}:∀(n:Nat) (todo seen:List Nat),i∉reach h n todo seen→reach (h.set i ob) n todo seen=reach h n todo seen
 | 0,_,_,_=>rfl
 | _+1, [],_,_=>rfl
 | n+1,j::todo,seen,hi=>by
  unfold reach at hi ⊢
  split
  ·rename_i hc
   rw[if_pos hc]at hi
   exact E9 n _ _ hi
  ·rename_i hc
   rw[if_neg hc]at hi
   have gX:i≠j:=by
    rintro rfl
    exact hi (GJ n _ _ (by simp))
   rw[bm _ gX]
   exact E9 n _ _ hi
theorem set_set {i:Nat} {ob:aP}:(h.set i ob).set i (h.at i)=h:=by
 rw[List.set_set]
 apply List.ext_getElem?
 intro j
 rw[List.getElem?_set]
 split
 ·rename_i e
  subst e
  split
  ·rename_i hl
   simp[ai.at,List.getD,List.getElem?_eq_getElem hl]
  ·rename_i hl
   exact (List.getElem?_eq_none (by omega)).symm
 ·rfl
theorem JX {o:Op} {ρ:Operand→V} {i:Nat} {ob:aP} (hi:i∉gu o ρ h):gu o ρ (h.set i ob)=gu o ρ h:=by
 unfold gu at hi ⊢
 split at hi <;> try rfl
 split at hi <;> try rfl
 split at hi <;> try rfl
 exact E9 _ _ _ hi
theorem PM {o:Op} {ρ:Operand→V} {i:Nat} {ob:aP} (hi:i∉gu o ρ (h.set i ob)):gu o ρ (h.set i ob)=gu o ρ h:=by
 have h1:=JX (ob:=h.at i) hi
 rw[set_set]at h1
 exact h1.symm
theorem Xa {i:Nat} {ob:aP} {ord:List Nat} (hi:i∉ord):ai.pick (h.set i ob) ord=h.pick ord:=by
 unfold ai.pick
 refine List.map_congr_left fun j hj => ?_
 rw[bm _ (by rintro rfl; exact hi hj)]
theorem Me {i:Nat} {ob:aP}:∀(l:List (Nat×aP)) (h:ai),(∀x∈l,x.1≠i)→ai.u9 (h.set i ob) l=(ai.u9 h l).set i ob
 | [],_,_=>rfl
 | x::l,h,hl=>by
  simp only[ai.u9]
  rw[List.set_comm _ _ (Ne.symm (hl x (by simp)))]
  exact Me l _ fun y hy=>hl y (by simp[hy])
theorem Xb {i:Nat} {ob:aP} {ord:List Nat} (hi:i∉ord) (hl:i<h.length) (h':ai):ai.back (h.set i ob) ord h'=(h.back ord h').set i ob:=by
 unfold ai.back
 simp only[List.length_set]
 rw[Me _ _ fun x hx=>by
  have:=(List.of_mem_zip hx).1
  rintro rfl
  exact hi this]
 rw[List.set_append_left _ _ (by rw[dn]; exact hl)]
theorem Vp {E:Env R} {cl:Call} (hp:jt E (.call cl)=false) (hs:gl E (.call cl)=false) {full:Bool} {fr:List V} {i:Nat} {ob:aP} (hi:i∉gu (.call cl) (ev fr) h) (hl:i<h.length) {k:V→ai→Option R} :
  tA tt E full cl (ev fr) (h.set i ob) k=tA tt E full cl (ev fr) h fun v h'=>k v (h'.set i ob):=by
 unfold tA
 split
 ·rename_i f hf
  split
  ·rename_i g first cap hg
   simp only
   have L7:gu (.call cl) (ev fr) h=reach h 64 (V.nv (first++cl.args.toList.map (ev fr)++cap)) []:=by simp only[gu,hf,hg]
   rw[L7]at hi
   split
   ·exfalso
    rename_i PE
    cases f with
    | tmp t=>simp[jt,hf]at hp
    | func g' =>
     simp only[ev,V.func.injEq]at hg
     obtain ⟨rfl,_,_⟩:=hg
     simp[jt,hf,PE]at hp
    | const c=>exact BA hg
    | global _=>simp[ev]at hg
   ·rename_i sp PE
    cases full
    ·rfl
    ·simp only[cond_true]
     cases hg0:mZ.soft g with
     | true =>
      exfalso
      cases f with
      | tmp t=>simp[jt,hf]at hp
      | func g' =>
       simp only[ev,V.func.injEq]at hg
       obtain ⟨rfl,_,_⟩:=hg
       simp[gl,hf,hg0,PE]at hs
      | const c=>exact BA hg
      | global _=>simp[ev]at hg
     | false =>
      simp only[cond_false]
      rw[E9 _ _ _ hi,Xa hi]
      congr 1
      funext v h'
      rw[Xb hi hl,List.length_set]
   ·rfl
  ·rfl
 ·rfl

theorem Rf {E:Env R} {cl:Call} {full:Bool} {ρ ρ':Operand→V} (hop:∀z∈cl.operands,ρ' z=ρ z) {k:V→ai→Option R}:tA tt E full cl ρ' h k=tA tt E full cl ρ h k:=by
 have T7:cl.args.toList.map ρ'=cl.args.toList.map ρ:=List.map_congr_left fun z hz=>hop z (by simp[Call.operands]; exact .inr (by simpa using hz))
 unfold tA
 split
 ·rename_i f hf
  rw[hop f (by simp[Call.operands,hf]),T7]
 ·rfl

theorem T8 {E:Env R} {S:Option (Bool×List Nat)} {base:Nat} {all:List Oper} {x y:Oper} {e:T5} {ix id:Nat} (GD:FI (cr tt E x.op) (cr tt E y.op)=true∨(lE y.op=true∧S.map (·.1)≠some true∧(aS tt x=true→id<ix))∨(da tt x.op = .R∧lE y.op=true)∨(da tt x.op = .R∧gl E y.op=true)∨(da tt x.op = .R∧cr tt E y.op = .F)∨(da tt x.op = .A∧S.map (·.1)=some true∧cr tt E y.op = .F∧gl E y.op=false∧Hb tt all base y≤ix)∨(da tt x.op = .R∧da tt y.op = .W)) (hap:tQ all x y=true) (hc:calm (da tt x.op)=true) (he:e.dst=x.dst)
  (Rg:∀i ob,e.put=some (i,ob)→i=ix∧da tt x.op = .A) (hid:aS tt x=true→aS tt y=true→ix≠id) (hb:aS tt x=true→base≤ix) (ht:aS tt x=true→ix<base+(all.filter (aS tt)).length) (st:St) (k:St→Option R) :
  one tt E S base all y id (Z0 st e) k=one tt E S base all y id st fun I4=>k (Z0 I4 e):=by
 obtain ⟨a1,a2,a3⟩:=apart_spec hap
 have hl:∀t∈looks all y,(gM st.fr e.dst e.v).getD t .undef=st.fr.getD t .undef:=fun t ht=>OK fun h=>a1 t (he▸h) ht
 have JY:∀u,gM (gM st.fr e.dst e.v) y.dst u=gM (gM st.fr y.dst u) e.dst e.v:=fun u=>Vn fun d hd=>a2 d (he▸hd)
 obtain ⟨fr,Vq⟩:=st
 simp only at hl JY
 have hokS:Gv tt E base S all y (ev (gM fr e.dst e.v)) (e.hp Vq)=Gv tt E base S all y (ev fr) Vq:=by
  rw[OL hl]
  match S,GD with
  | none,_=>rfl
  | some (false,A),_=>simp only[Gv]
  | some (true,A),GD =>
   simp only[Gv]
   split
   ·rfl
   ·rename_i vg
    cases hf:UE tt E y.op with
    | false=>rfl
    | true =>
     have hF:cr tt E y.op = .F:=by revert hf; unfold UE; cases cr tt E y.op <;> simp
     cases hq:e.put with
     | none=>simp only[T5.hp,hq]
     | some jo =>
      obtain ⟨j,ob⟩:=jo
      obtain ⟨rfl,hA⟩:=Rg j ob hq
      have Zh:lE y.op=true→False:=fun ha=>by rw[By ha]at vg; cases vg
      rcases GD with GD|⟨h,_⟩|⟨_,h⟩|⟨h,_⟩|⟨h,_⟩|⟨_,_,_,hsf,hbj⟩|⟨h,_⟩
      ·rw[lH (by rw[hA]; simp),hF,hA]at GD
       cases GD
      ·exact (Zh h).elim
      ·exact (Zh h).elim
      ·rw[hA]at h; cases h
      ·rw[hA]at h; cases h
      ·simp only[T5.hp,hq,hsf,Bool.not_true,Bool.false_or,List.length_set]
       by_cases hm:j∈gu y.op (ev fr) Vq
       ·have ZI:j∈gu y.op (ev fr) (Vq.set j ob):=by
         by_cases ZI:j∈gu y.op (ev fr) (Vq.set j ob)
         ·exact ZI
         ·rw[PM ZI]; exact hm
        have QM:∀l:List Nat,j∈l→l.all (fun i=>Nat.blt i (Hb tt all base y))=false:=fun l hl=>by
         rw[List.all_eq_false]
         exact ⟨j,hl,by simpa using hbj⟩
        rw[QM _ hm,QM _ ZI]
        simp
       ·rw[JX hm]
      ·rw[hA]at h; cases h
   ·rfl
   ·rfl
 unfold one
 refine Mb hl ?_ ?_
 ·simp only[Z0]
  rw[hokS]
  cases hS:Gv tt E base S all y (ev fr) Vq with
  | false=>rfl
  | true =>
  simp only[cond_true]
  unfold uT
  simp only
  split
  ·rw[OD (Ad hl)]
   simp only[JY]
  ·rename_i vg
   rw[PL (by rw[vg]; simp),OE (Ad hl),Re (h:=Vq)]
   ·simp only[JY]
   ·intro i _ hi
    unfold T5.hp
    split
    ·rfl
    ·rename_i j ob hj
     obtain ⟨rfl,hA⟩:=Rg _ _ hj
     have:=hb (by simp[aS,hA])
     simp[Dc]at hi
     rw[bm _ (by omega)]
  ·rename_i vg
   rw[OF (Ad hl)]
   simp only[JY]
   congr 1
   funext ob mk
   congr 2
   unfold T5.hp
   split
   ·rfl
   ·rename_i j ob' hj
    obtain ⟨rfl,hA⟩:=Rg _ _ hj
    exact List.set_comm _ _ (hid (by simp[aS,hA]) (by simp[aS,vg]))
  ·rename_i vg
   rw[SS (Ad hl)]
   cases Xc:Qu (Wf tt S base y) y.op (ev fr) id with
   | false=>rfl
   | true =>
    simp only[Bool.not_true,cond_false]
    cases hq:e.put with
    | none =>
     rw[OG (Ad hl)]
     simp only[JY,T5.hp,hq]
    | some jo =>
     obtain ⟨j,ob⟩:=jo
     obtain ⟨rfl,hA⟩:=Rg j ob hq
     have hy:lE y.op=true∧S.map (·.1)≠some true∧id<j:=by
      rcases GD with h|⟨h,h3,h2⟩|⟨h,_⟩|⟨h,_⟩|⟨h,_⟩|⟨_,_,h,_⟩|⟨h,_⟩
      ·rw[lH (by rw[hA]; simp),lH (by rw[vg]; simp),hA,vg]at h; cases h
      ·exact ⟨h,h3,h2 (by simp[aS,hA])⟩
      ·rw[hA]at h; cases h
      ·rw[hA]at h; cases h
      ·rw[hA]at h; cases h
      ·rw[lH (by rw[vg]; simp),vg]at h; cases h
      ·rw[hA]at h; cases h
     rw[OG (Ad hl)]
     simp only[JY,T5.hp,hq]
     have Xd:yw base y.op (ev fr) id=true:=by rw[Rd hy.2.1]at Xc; exact Xc
     exact ZW hy.1 Xd hy.2.2
  ·rename_i vg
   rw[PL (by rw[vg]; simp)]
   split
   ·rename_i cl Z1
    simp only[JY]
    have hop:∀z∈cl.operands,ev (gM fr e.dst e.v) z=ev fr z:=fun z hz=>Ad hl z (by rw[Z1]; exact hz)
    have T7:cl.args.toList.map (ev (gM fr e.dst e.v))=cl.args.toList.map (ev fr):=List.map_congr_left fun z hz=>hop z (by simp[Call.operands]; exact .inr (by simpa using hz))
    cases Wh:jt E y.op with
    | true =>
     have Xe:(Option.isNone (some base) || !true)=false:=rfl
     rw[Z1]at Wh
     rw[Xe]
     unfold tA
     split
     ·rename_i f hf
      rw[hop f (by simp[Call.operands,hf]),T7]
      split
      ·split
       ·simp only[cond_false]
       ·rfl
       ·rfl
      ·rfl
     ·rfl
    | false =>
     have hF:cr tt E y.op = .F:=by unfold cr; rw[vg]; simp[Wh]
     rw[Rf hop]
     cases hq:e.put with
     | none =>
      have hh2:∀h2,e.hp h2=h2:=fun h2=>by simp[T5.hp,hq]
      simp only[hh2]
     | some jo =>
      obtain ⟨j,ob⟩:=jo
      obtain ⟨rfl,hA⟩:=Rg j ob hq
      have Zh:lE y.op=true→False:=fun ha=>by rw[By ha]at vg; cases vg
      rcases GD with GD|⟨h,_⟩|⟨_,h⟩|⟨h,_⟩|⟨h,_⟩|⟨_,h2,_,hsf,hbj⟩|⟨h,_⟩
      ·rw[lH (by rw[hA]; simp),hF,hA]at GD
       cases GD
      ·exact (Zh h).elim
      ·exact (Zh h).elim
      ·rw[hA]at h; cases h
      ·rw[hA]at h; cases h
      ·have hh2:∀h2,e.hp h2=h2.set j ob:=fun h2=>by simp[T5.hp,hq]
       simp only[hh2]
       have hif:UE tt E y.op=true:=by unfold UE; rw[hF]
       match S,h2,hS with
       | some (true,A),_,hS =>
        simp only[Gv,vg,hif,hsf,Bool.not_true,Bool.false_or,Bool.and_eq_true,List.all_eq_true]at hS
        have htj:=ht (by simp[aS,hA])
        have h3:base+(all.filter (aS tt)).length≤Vq.length:=by simpa using hS.1.1
        rw[Z1]at Wh hsf
        refine Vp Wh hsf (fun hm => ?_) (by omega)
        have h4:=hS.1.2 j (by rw[Z1]; exact hm)
        simp at h4
        omega
      ·rw[hA]at h; cases h
   ·rfl
  ·rfl
  ·rfl
 ·simp only[Z0,JY]

theorem SW {E:Env R} (hE:R3 P E) {cl:Call} (hs:gl E (.call cl)=true) {full:Bool} {fr:List V} {k k':V→ai→Option R} (he:∀v,k v h=k' v h) :
  tA tt E full cl (ev fr) h k=tA tt E full cl (ev fr) h k':=by
 unfold gl at hs
 simp only at hs
 split at hs
 ·rename_i g hg
  simp only[Bool.and_eq_true]at hs
  obtain ⟨h1,h2⟩:=hs
  split at h2
  ·rename_i sp PE
   unfold tA
   simp only[hg,ev,PE,h1]
   cases full
   ·rfl
   ·simp only[cond_true]
    exact (hE g _ sp PE).2 rfl h1 _ _ _ _ he
  ·cases h2
 ·cases hs

theorem SX {E:Env R} {cl:Call} (hp:jt E (.call cl)=false) (hs:gl E (.call cl)=false) {full:Bool} {fr:List V} {k k':V→ai→Option R}
  (he:∀v h',(∀i,i<h.length→i∉gu (.call cl) (ev fr) h→h'.at i=h.at i)→k v h'=k' v h') (h0:∀v,k v h=k' v h):tA tt E full cl (ev fr) h k=tA tt E full cl (ev fr) h k':=by
 unfold tA
 split
 ·rename_i f hf
  split
  ·rename_i g first cap hg
   simp only
   split
   ·split
    ·congr 1
     funext v h'
     cases h' with
     | nil=>exact h0 v
     | cons _ _=>rfl
    ·cases full
     ·rfl
     ·simp only[cond_true]
      unfold Wx
      split
      ·congr 1
       funext v h'
       cases h' with
       | nil=>simp only[h0]
       | cons _ _=>rfl
      ·rfl
   ·rename_i sp PE
    cases full
    ·rfl
    ·simp only[cond_true]
     cases hg0:mZ.soft g with
     | true =>
      exfalso
      cases f with
      | tmp t=>simp[jt,hf]at hp
      | func g' =>
       simp only[ev,V.func.injEq]at hg
       obtain ⟨rfl,_,_⟩:=hg
       simp[gl,hf,hg0,PE]at hs
      | const c=>exact BA hg
      | global _=>simp[ev]at hg
     | false =>
      simp only[cond_false]
      congr 1
      funext v h'
      refine he _ _ fun i hi hn => ?_
      unfold ai.back
      simp only
      rw[fp (by rw[dn]; exact hi)]
      refine Bx _ _ _ ?_
      simpa only[gu,hf,hg]using hn
   ·rfl
  ·rfl
 ·rfl

theorem I5 {all:List Oper} {x:Oper} (h:kn all x=true∨m3 all x=true):∃t a y,x.op = .store t a y∧x.dst=none∧x.guard=none:=by
 rcases h with h|h
 ·unfold kn at h
  split at h
  ·rename_i ho
   simp only[Bool.and_eq_true,Option.isNone_iff_eq_none]at h
   exact ⟨_,_,_,ho,h.1.1,h.1.2⟩
  ·cases h
 ·unfold m3 at h
  split at h
  ·rename_i ho
   simp only[Bool.and_eq_true,Option.isNone_iff_eq_none]at h
   exact ⟨_,_,_,ho,h.1.1,h.1.2⟩
  ·cases h
theorem BB {all:List Oper} {x:Oper} (h:Pr all x=true):∃t a y,x.op = .store t a y∧x.dst=none∧x.guard=none:=by
 unfold Pr at h
 rw[Bool.or_eq_true]at h
 rcases h with h|h
 ·exact I5 (.inl h)
 ·unfold Pq at h
  split at h
  ·rename_i ho
   simp only[Bool.and_eq_true,Option.isNone_iff_eq_none]at h
   exact ⟨_,_,_,ho,h.1.1,h.1.2⟩
  ·cases h
theorem Fa {all:List Oper} {x y:Oper} (h:Si all x y=true):(kn all x=true∧m3 all y=true)∨(m3 all x=true∧kn all y=true):=by
 simpa only[Si,Bool.or_eq_true,Bool.and_eq_true]using h
theorem Ae {all:List Oper} {x y:Oper} (h:Si all x y=true):da tt x.op = .W∧da tt y.op = .W:=by
 have h1:∀z,kn all z=true∨m3 all z=true→da tt z.op = .W:=fun z hz=>by
  obtain ⟨t,a,y,e,_⟩:=I5 hz
  rw[e]; rfl
 rcases Fa h with ⟨h2,h3⟩|⟨h2,h3⟩
 ·exact ⟨h1 _ (.inl h2),h1 _ (.inr h3)⟩
 ·exact ⟨h1 _ (.inr h2),h1 _ (.inl h3)⟩
theorem JZ (t:Nat) (a y:Operand) (ρ:Operand→V) (h:ai) (id:Nat) :
  (∀k:V→ai→Option R,Lz tt (.store t a y) ρ h id k=none)∨∃i ob,i∈(ρ a).ids∧∀(h2:ai) (Zi:Nat) (k:V→ai→Option R),h2.at i=h.at i→Lz tt (.store t a y) ρ h2 Zi k=k .undef (h2.set i ob):=by
 simp only[Lz]
 cases hvs:Ol (ρ y)with
 | none=>exact .inl fun k=>rfl
 | some vs =>
 simp only
 by_cases hc:(tt.ok t&&decide (vs.length=(tt.at t).size))=true
 rotate_left
 ·exact .inl fun k=>by rw[if_neg hc]
 simp only[hc,if_true]
 cases hx:ρ a with
 | ptr i o =>
  simp only
  cases hi:h.at i with
  | cells cs =>
   by_cases hle:o+vs.length≤cs.length
   ·exact .inr ⟨i, .cells (vb cs o vs),by simp[V.ids],fun h2 Zi k e=>by simp only[e,hi,hle,if_true]⟩
   ·exact .inl fun k=>by simp only[hle,if_false]
  | qV bv =>
   match o,vs with
   | 1, [v]=>exact .inr ⟨i, .qV v,by simp[V.ids],fun h2 Zi k e=>by simp only[e,hi]⟩
   | 0,_=>exact .inl fun k=>rfl
   | 1, []=>exact .inl fun k=>rfl
   | 1,_::_::_=>exact .inl fun k=>rfl
   | _+2,_=>exact .inl fun k=>rfl
  | _=>exact .inl fun k=>rfl
 | nu i sz j o =>
  simp only
  cases hi:h.at i with
  | row T l =>
   by_cases k8:sz=T.sz
   ·by_cases hle:o+vs.length≤(T.cells (l.getD j T.aC)).length
    ·cases hz:T.dec (vb (T.cells (l.getD j T.aC)) o vs)with
     | none=>exact .inl fun k=>by simp only[k8,hle,if_true,hz]
     | some z =>
      by_cases hj:j<l.length
      ·exact .inr ⟨i, .row T (l.set j z),by simp[V.ids],fun h2 Zi k e=>by simp only[e,hi,k8,hle,if_true,hz,cC,hj,decide_true,cond_true]⟩
      ·exact .inl fun k=>by simp only[k8,hle,if_true,hz,cC,hj,decide_false,cond_false]
    ·exact .inl fun k=>by simp only[k8,hle,if_true,if_false]
   ·exact .inl fun k=>by simp only[k8,if_false]
  | _=>exact .inl fun k=>rfl
 | _=>exact .inl fun k=>rfl
theorem Vr {t:Nat} {a y:Operand} {ρ:Operand→V} {id:Nat} {k0:V→ai→Option R} {r:R} (hk:Lz tt (.store t a y) ρ h id k0=some r) :
  ∃i ob,i∈(ρ a).ids∧k0 .undef (h.set i ob)=some r∧∀(h2:ai) (Zi:Nat) (k:V→ai→Option R),h2.at i=h.at i→Lz tt (.store t a y) ρ h2 Zi k=k .undef (h2.set i ob):=by
 rcases JZ (tt:=tt) (R:=R) t a y ρ h id with h1|⟨i,ob,h1,h2⟩
 ·rw[h1]at hk; cases hk
 ·rw[h2 h id k0 rfl]at hk
  exact ⟨i,ob,h1,hk,h2⟩

theorem I6 {E:Env R} (hE:R3 P E) {S:Option (Bool×List Nat)} {base:Nat} {all:List Oper} {y:Oper} {id:Nat} {st:St} {k k':St→Option R} (hb:aS tt y=true→base≤id)
  (h:∀v Wl,Kept S tt E all base y st.hp Wl→k ⟨gM st.fr y.dst v,Wl⟩=k' ⟨gM st.fr y.dst v,Wl⟩):one tt E S base all y id st k=one tt E S base all y id st k':=by
 have h0:∀v,k ⟨gM st.fr y.dst v,st.hp⟩=k' ⟨gM st.fr y.dst v,st.hp⟩:=fun v=>h v _ (.inl fun _ _=>rfl)
 obtain ⟨fr,Vq⟩:=st
 unfold one
 refine Mb (fun _ _=>rfl) ?_ (h0 _)
 cases hS:Gv tt E base S all y (ev fr) Vq with
 | false=>rfl
 | true =>
 simp only[cond_true]
 unfold uT
 simp only at h h0 ⊢
 split
 ·simp only[h0]
 ·simp only[h0]
 ·rename_i vg
  congr 1
  funext ob mk
  refine h _ _ (.inl fun i hi => ?_)
  have:=hb (by simp[aS,vg])
  rw[bm _ (by omega)]
 ·rename_i vg
  have hbi:=hb (by simp[aS,vg])
  cases Xc:Qu (Wf tt S base y) y.op (ev fr) id with
  | false=>rfl
  | true =>
   simp only[Bool.not_true,cond_false]
   by_cases ha:lE y.op=true
   ·by_cases Xf:S.map (·.1)=some true
    ·congr 1
     funext v h'
     refine h v h' (.inr ⟨.inr ⟨Xf,ha⟩,fun hF => ?_,fun hv => ?_⟩)
     ·rw[lH (by rw[vg]; simp),vg]at hF; cases hF
     ·obtain ⟨t,a,z,ey,_⟩:=BB hv
      rw[ey]at ha; cases ha
    have Xd:yw base y.op (ev fr) id=true:=by rw[Rd Xf]at Xc; exact Xc
    exact W6 ha hbi Xd fun v h' hrd=>h v h' (.inl fun i hi=>hrd i (by omega))
   ·have htu:turns tt E y.op := .inl ⟨by rw[lH (by rw[vg]; simp),vg],by simpa using ha⟩
    have hnF:cr tt E y.op ≠ .F:=fun hF=>by rw[lH (by rw[vg]; simp),vg]at hF; cases hF
    by_cases hv:Pr all y=true
    ·obtain ⟨t,a,z,ey,_,_⟩:=BB hv
     rw[ey]
     rcases JZ (tt:=tt) (R:=R) t a z (ev fr) Vq id with h1|⟨i,ob,h1,h2⟩
     ·rw[h1,h1]
     ·rw[h2 Vq id _ rfl,h2 Vq id _ rfl]
      refine h _ _ (.inr ⟨.inl htu,fun hF=>(hnF hF).elim,fun _ A hA j hj => ?_⟩)
      subst hA
      simp only[Gv,vg,hv,Bool.not_true,Bool.false_or,List.all_eq_true]at hS
      have h3:=hS i (by rw[ey]; exact h1)
      rw[bm _ (by rintro rfl; exact hj (by simpa using h3))]
    ·congr 1
     funext v h'
     exact h v h' (.inr ⟨.inl htu,fun hF=>(hnF hF).elim,fun hv2=>(hv hv2).elim⟩)
 ·rename_i vg
  rw[PL (by rw[vg]; simp)]
  split
  ·rename_i cl GD
   cases Wh:jt E y.op with
   | true =>
    have Xe:(Option.isNone (some base) || !true)=false:=rfl
    rw[Xe]
    unfold tA
    split
    ·split
     ·split
      ·simp only
       split
       ·congr 1
        funext v h'
        cases h' with
        | nil=>exact h0 v
        | cons _ _=>rfl
       ·rfl
      ·rfl
      ·rfl
     ·rfl
    ·rfl
   | false =>
    have hF:cr tt E y.op = .F:=by unfold cr; rw[vg]; simp[Wh]
    cases hs:gl E y.op with
    | true=>exact SW hE (by rw[←GD]; exact hs) fun v=>h0 v
    | false =>
     have htu:turns tt E y.op := .inr ⟨hF,hs⟩
     refine SX (by rw[GD]at Wh; exact Wh) (by rw[GD]at hs; exact hs) (fun v h' hh=>h v h' (.inr ⟨.inl htu,fun _ A hA => ?_,fun hv => ?_⟩)) fun v=>h0 v
     rotate_left
     ·obtain ⟨t,a,z,ey,_⟩:=BB hv
      rw[ey]at GD; cases GD
     subst hA
     have hif:UE tt E y.op=true:=by unfold UE; rw[hF]
     simp only[Gv,vg,hif,hs,Bool.not_true,Bool.false_or,List.all_eq_true,Bool.and_eq_true]at hS
     intro i hi
     have h1:=hS.2 i hi
     rw[GD]at h1
     rw[hh i (by simpa using h1.1) (by simpa using h1.2)]
  ·rfl
 ·rfl
 ·rfl
end

section
variable {P:Program} {tt:ca} {w w':World} {h h':ai} {c c':eT} {R:Type}

theorem Xg {o:Oper} {a:Act} {G:Prop} (h:o.wp P a w (fun _ _=>G) (fun _ _ _=>G)):G:=by
 unfold Oper.wp at h
 generalize (execOp a.eval o).run P w=r at h
 cases r with
 | ok n w' =>
  cases n <;> simp only[Oper.upon]at h <;> try (first|exact h|exact h.elim)
  ·obtain ⟨e,w',fr,hR,_⟩:=h []
   cases e with
   | returned v=>exact hR
   | panicked c=>exact hR
   | outgrown=>obtain ⟨_,_,g⟩:=hR; exact g
  ·obtain ⟨v,w',g,_⟩:=h (Frame.enter P 0 #[] .normal) []
   exact g
 | halt x w'=>cases x <;> simp only[Oper.upon]at h <;> first|exact h|exact h.elim

theorem Vs (T:tq P tt) {E:Env R} (hE:R3 P E) {S:Option (Bool×List Nat)} {base:Nat} {ops:Array Oper} {y:Oper} {id:Nat} {st:St} {a:Act} {k:St→Option R} {r:R} (hk:one tt E S base ops.toList y id st k=some r) (dV:GH w c st a)
  (hid:aS tt y=true→base≤id∧id<st.hp.length∧st.hp.at id = .free) :
  ∃w1 c1 I4 a1 v,GH w1 c1 I4 a1∧k I4=some r∧I4.fr=gM st.fr y.dst v∧Kept S tt E ops.toList base y st.hp I4.hp∧oe (aS tt y) id st.hp I4.hp:=by
 classical
 obtain ⟨k',mV,hof⟩:∃k':St→Option R,one tt E S base ops.toList y id st k'=some r∧∀I4,k' I4=some r→k I4=some r∧Kept S tt E ops.toList base y st.hp I4.hp:=by
  refine ⟨fun I4=>if Kept S tt E ops.toList base y st.hp I4.hp then k I4 else none,?_,fun I4 e => ?_⟩
  ·rw[←hk]
   refine I6 hE (fun ha=>(hid ha).1) fun v Wl ht => ?_
   rw[if_pos ht]
  ·simp only at e
   split at e
   ·exact ⟨e, ‹_›⟩
   ·cases e
 rcases Bz dV mV with ⟨_,hk⟩|⟨_,hk⟩
 ·have hk:uT tt E (Wf tt S base y) id y st k'=some r:=by
   cases hS:Gv tt E base S ops.toList y (ev st.fr) st.hp with
   | true=>rw[hS]at hk; exact hk
   | false=>rw[hS]at hk; cases hk
  refine Xg (P:=P) (o:=y) (a:=a) (w:=w) (DT T hE hk dV (fun ha=>(hid ha).2) fun d w' oc c' v SV x kp hf _ mV => ?_)
  exact ⟨w',c',oc,_,v,SV,(hof _ mV).1,hf,(hof _ mV).2,kp⟩
 ·exact ⟨w,c,⟨gM st.fr y.dst (.tuple []),st.hp⟩,a.put y.dst undef, .tuple [],⟨dV.wf,vO dV.fr _ I3⟩,(hof _ hk).1,rfl, .inl fun _ _=>rfl, .refl _ _ _⟩

structure Good (tt:ca) (base:Nat) (all:List Oper) (rem:List qA) (h:ai):Prop where
 top:∀z∈rem,aS tt z.2.1=true→z.2.2<base+(all.filter (aS tt)).length
 cap:rem.Pairwise fun z z'=>aS tt z'.2.1=true→Hb tt all base z.2.1≤z'.2.2
 slot:∀z∈rem,aS tt z.2.1=true→base≤z.2.2∧z.2.2<h.length∧h.at z.2.2 = .free
 apart:rem.Pairwise fun z z'=>aS tt z.2.1=true→aS tt z'.2.1=true→z.2.2<z'.2.2

theorem Good.sub {base:Nat} {all:List Oper} {rem rem':List qA} (g:Good tt base all rem h) (hs:List.Sublist rem' rem):Good tt base all rem' h :=
 ⟨fun z hz=>g.top z (hs.subset hz),g.cap.sublist hs,fun z hz=>g.slot z (hs.subset hz),g.apart.sublist hs⟩

theorem Good.step {base:Nat} {all:List Oper} {x:qA} {pre post:List qA} (g:Good tt base all (pre++x::post) h) (kp:oe (aS tt x.2.1) x.2.2 h h'):Good tt base all (pre++post) h':=by
 have hs:List.Sublist (pre++post) (pre++x::post):=List.Sublist.append (List.Sublist.refl _) (List.sublist_cons_self _ _)
 refine ⟨fun z hz=>g.top z (hs.subset hz),g.cap.sublist hs,fun z hz ha => ?_,g.apart.sublist hs⟩
 obtain ⟨h1,h2,h3⟩:=g.slot z (hs.subset hz) ha
 refine ⟨h1,Nat.lt_of_lt_of_le h2 kp.1,kp.2 _ (fun hx => ?_) h2 h3⟩
 have hp:=g.apart
 rw[List.pairwise_append,List.pairwise_cons]at hp
 rcases List.mem_append.1 hz with hz|hz
 ·have:=hp.2.2 z hz x (by simp) ha hx; omega
 ·have:=hp.2.1.1 z hz hx ha; omega

theorem Mf {all:List Oper} {x y:Oper} (h2:tQ all x y=true):tQ all y x=true:=by
 obtain ⟨a1,a2,a3⟩:=apart_spec h2
 simp only[tQ,Bool.and_eq_true]
 constructor
 ·cases hd:y.dst with
  | none=>rfl
  | some d =>
   have h3:=a3 d hd
   have h4:x.dst≠some d:=fun e=>a2 d e hd
   simp[h3,h4]
 ·cases hd:x.dst with
  | none=>rfl
  | some d=>simp[a1 d hd]
theorem Mg {a b:Cls} (h:FI a b=true):FI b a=true:=by revert h; cases a <;> cases b <;> simp[FI]
theorem wi {E:Env R} {all:List Oper} {x y:Oper} (h:IT tt E all x y=true):tQ all x y=true ∧
  (FI (cr tt E x.op) (cr tt E y.op)=true∨(lE x.op=true∧(cr tt E y.op = .A∨cr tt E y.op = .R))∨(cr tt E x.op = .R∧lE y.op=true)∨(gl E x.op=true∧cr tt E y.op = .R)∨(cr tt E x.op = .R∧gl E y.op=true)):=by
 simp only[IT,Bool.and_eq_true,Bool.or_eq_true,tokPair]at h
 obtain ⟨h1,h2⟩:=h
 refine ⟨h2,?_⟩
 rcases h1 with h1|(⟨h1,h3⟩|⟨h1,h3⟩)|(⟨h1,h3⟩|⟨h1,h3⟩)
 ·exact .inl h1
 ·refine .inr (.inl ⟨h1,?_⟩)
  revert h3; cases cr tt E y.op <;> simp
 ·refine .inr (.inr (.inl ⟨?_,h3⟩))
  revert h1; cases cr tt E x.op <;> simp
 ·refine .inr (.inr (.inr (.inl ⟨h1,?_⟩)))
  revert h3; cases cr tt E y.op <;> simp
 ·refine .inr (.inr (.inr (.inr ⟨?_,h3⟩)))
  revert h1; cases cr tt E x.op <;> simp
theorem Mh {E:Env R} {o:Op} (h:UE tt E o=true):cr tt E o = .F:=by revert h; unfold UE; cases cr tt E o <;> simp
theorem Rh {E:Env R} {all:List Oper} {x:Oper} (h:Qv tt E all x=true):cr tt E x.op = .R:=by
 simp only[Qv,Bool.and_eq_true]at h
 revert h
 cases cr tt E x.op <;> simp
theorem Vt {E:Env R} {all:List Oper} {x:Oper} (h:On tt E all x=true):cr tt E x.op = .R:=by
 simp only[On,Bool.and_eq_true]at h
 revert h
 cases cr tt E x.op <;> simp
theorem lk {E:Env R} {ZB:Option Bool} {all:List Oper} {x y:Oper} (h:Dd tt E ZB all x y=true):tQ all x y=true∧((IT tt E all x y=true∧(ZB=some true→Qw tt E x y=true))∨(ZB=some true ∧
  ((Qv tt E all x=true∧cr tt E x.op = .R∧cr tt E y.op = .F)∨(cr tt E x.op = .F∧gl E x.op=false∧da tt y.op = .A)∨Si all x y=true∨(cr tt E x.op = .F∧Qv tt E all y=true∧cr tt E y.op = .R)))∨(ZB=some false∧On tt E all x=true∧cr tt E x.op = .R∧Pr all y=true)):=by
 unfold Dd at h
 simp only[Bool.or_eq_true,Bool.and_eq_true]at h
 rcases h with ⟨h,hn⟩|h
 ·exact ⟨(wi h).1, .inl ⟨h,fun e=>by subst e; exact hn⟩⟩
 ·split at h
  ·cases h
  ·simp only[Bool.or_eq_true,Bool.and_eq_true]at h
   rcases h with ⟨((⟨h2,h3⟩|⟨h2,h3,h5⟩)|h2)|⟨h2,h3⟩,h4⟩
   ·exact ⟨h4, .inr (.inl ⟨rfl, .inl ⟨h2,Rh h2,Mh h3⟩⟩)⟩
   ·refine ⟨h4, .inr (.inl ⟨rfl, .inr (.inl ⟨Mh h2,by simpa using h3,?_⟩)⟩)⟩
    revert h5
    cases da tt y.op <;> simp
   ·exact ⟨h4, .inr (.inl ⟨rfl, .inr (.inr (.inl h2))⟩)⟩
   ·exact ⟨h4, .inr (.inl ⟨rfl, .inr (.inr (.inr ⟨Mh h2,h3,Rh h3⟩))⟩)⟩
  ·simp only[Bool.and_eq_true]at h
   exact ⟨h.2, .inr (.inr ⟨rfl,h.1.1,Vt h.1.1,h.1.2⟩)⟩
theorem Mi {all:List Oper} {x:Oper} (h:Pr all x=true):da tt x.op = .W:=by
 obtain ⟨t,a,y,e,_⟩:=BB h
 rw[e]; rfl
theorem OM {E:Env R} {S:Option (Bool×List Nat)} {base:Nat} {all:List Oper} {x:Oper} {id:Nat} {fr:List V} {k0:St→Option R} {r:R} (hx:kn all x=true∨m3 all x=true) (hk:one tt E S base all x id ⟨fr,h⟩ k0=some r) :
  Gv tt E base S all x (ev fr) h=true∧∃i ob,i∈wo x.op (ev fr)∧k0 ⟨fr,h.set i ob⟩=some r∧∀(h2:ai) (Zi:Nat) (k:St→Option R),h2.at i=h.at i→one tt E S base all x Zi ⟨fr,h2⟩ k=k ⟨fr,h2.set i ob⟩:=by
 obtain ⟨t,a,y,e,hd,hg⟩:=I5 hx
 obtain ⟨dst,op,ty,pos,after,guard⟩:=x
 simp only at e hd hg
 subst e hd hg
 unfold one at hk ⊢
 rw[wh]at hk
 simp only at hk
 have hS:Gv tt E base S all ⟨none, .store t a y,ty,pos,after,none⟩ (ev fr) h=true:=by
  cases hS:Gv tt E base S all ⟨none, .store t a y,ty,pos,after,none⟩ (ev fr) h with
  | true=>rfl
  | false=>rw[hS]at hk; cases hk
 refine ⟨hS,?_⟩
 have Xf:∀(dr:Option Nat) (id:Nat) (h:ai) (k:St→Option R),uT tt E dr id ⟨none, .store t a y,ty,pos,after,none⟩ ⟨fr,h⟩ k=Lz tt (.store t a y) (ev fr) h id fun v h=>k ⟨gM fr none v,h⟩:=fun dr id h k=>by cases dr <;> rfl
 rw[hS,cond_true,Xf]at hk
 obtain ⟨i,ob,h1,h2,h3⟩:=Vr (tt:=tt) (t:=t) (a:=a) (y:=y) (ρ:=ev fr) (id:=id) (k0:=fun v h=>k0 ⟨gM fr none v,h⟩) hk
 refine ⟨i,ob,h1,h2,fun hh Zi k e => ?_⟩
 rw[wh]
 simp only
 have hS2:Gv tt E base S all ⟨none, .store t a y,ty,pos,after,none⟩ (ev fr) hh=true:=by
  rw[←hS]
  match S with
  | none=>rfl
  | some (true,A)=>rfl
  | some (false,A)=>rfl
 rw[hS2,cond_true,Xf]
 exact h3 hh Zi (fun v h=>k ⟨gM fr none v,h⟩) e
theorem Mj {E:Env R} {o:Op} (hs:gl E o=true):da tt o = .C:=by
 unfold gl at hs
 split at hs
 ·split at hs
  ·rename_i cl _ g hg
   simp only[da,hg]
  ·cases hs
 ·cases hs
theorem PN {E:Env R} {o:Op} (hs:gl E o=true):cr tt E o = .F:=by
 have hc:=Mj (tt:=tt) hs
 have hp:jt E o=false:=by
  unfold gl at hs
  unfold jt
  split at hs
  ·split at hs
   ·rename_i cl _ g hg
    simp only[Bool.and_eq_true]at hs
    obtain ⟨_,h2⟩:=hs
    split at h2
    ·rename_i sp PE
     simp only[hg,PE]
    ·cases h2
   ·cases hs
  ·cases hs
 unfold cr
 rw[hc,hp]
 rfl
theorem SY {E:Env R} {o:Op} (ha:lE o=true):cr tt E o = .W:=by rw[lH (by rw[By ha]; simp),By ha]
theorem I7 {E:Env R} {o:Op} {a:Cls} (h:cr tt E o=a) (h1:a ≠ .C) (h2:a ≠ .F):da tt o=a:=by
 unfold cr at h
 split at h
 ·revert h; cases jt E o <;> intro h <;> subst h <;> simp at h1 h2
 ·exact h
theorem ON {E:Env R} {all:List Oper} {x y:Oper} (h:IT tt E all x y=true∨IT tt E all y x=true) (hR:da tt x.op = .R):¬turns tt E y.op:=by
 have hx:cr tt E x.op = .R:=by rw[lH (by rw[hR]; simp),hR]
 intro ht
 have Zh:lE y.op=true→False:=fun ha=>by
  rcases ht with ⟨_,h⟩|⟨h,_⟩
  ·rw[ha]at h; cases h
  ·rw[SY ha]at h; cases h
 have PO:gl E y.op=true→False:=fun hs=>by
  rcases ht with ⟨h,_⟩|⟨_,h⟩
  ·rw[PN hs]at h; cases h
  ·rw[hs]at h; cases h
 have hc:FI .R (cr tt E y.op)=false:=by rcases ht with ⟨h,_⟩|⟨h,_⟩ <;> rw[h] <;> rfl
 rcases h with h|h
 ·rcases (wi h).2 with h|⟨h,_⟩|⟨_,h⟩|⟨h,_⟩|⟨_,h⟩
  ·rw[hx,hc]at h; cases h
  ·rw[SY h]at hx; cases hx
  ·exact Zh h
  ·rw[PN h]at hx; cases hx
  ·exact PO h
 ·rcases (wi h).2 with h|⟨h,_⟩|⟨h,h'⟩|⟨h,_⟩|⟨_,h⟩
  ·have:=Mg h; rw[hx,hc]at this; cases this
  ·exact Zh h
  ·rw[SY h']at hx; cases hx
  ·exact PO h
  ·rw[PN h]at hx; cases hx

theorem xN.symm {S:Option (Bool×List Nat)} {E:Env R} {all:List Oper} {base:Nat} {x:Oper} {s t:St} (h:xN S E all tt base x s t):xN S E all tt base x t s:=⟨fun u hu=>(h.1 u hu).symm,fun hR i hi hA hB=>(h.2 hR i hi hA hB).symm⟩
theorem xN.trans {S:Option (Bool×List Nat)} {E:Env R} {all:List Oper} {base:Nat} {x:Oper} {s t u:St} (h:xN S E all tt base x s t) (h':xN S E all tt base x t u):xN S E all tt base x s u :=
 ⟨fun v hv=>(h'.1 v hv).trans (h.1 v hv),fun hR i hi hA hB=>(h'.2 hR i hi hA hB).trans (h.2 hR i hi hA hB)⟩

theorem BC {E:Env R} {S:Option (Bool×List Nat)} {all:List Oper} {base:Nat} {x y:Oper} (hp:Dd tt E (S.map (·.1)) all x y=true∨Dd tt E (S.map (·.1)) all y x=true) {st I4:St} {v:V} (hf:I4.fr=gM st.fr y.dst v) (hh:Kept S tt E all base y st.hp I4.hp) :
  xN S E all tt base x st I4:=by
 have h2:tQ all y x=true:=by
  rcases hp with h|h
  ·exact Mf (lk h).1
  ·exact (lk h).1
 refine ⟨fun t ht => ?_,fun hR i hi hA hB => ?_⟩
 ·rw[hf]
  exact OK fun e=>(apart_spec h2).1 t e ht
 ·rcases hh with hh|⟨hW,hh,hh2⟩
  ·exact hh i hi
  ·have hx:cr tt E x.op = .R:=by rw[lH (by rw[hR]; simp),hR]
   rcases hp with h|h
   ·rcases (lk h).2 with ⟨h,hn⟩|⟨h1,⟨h3,_,h4⟩|⟨h4,_⟩|h4|⟨h4,_⟩⟩|⟨h1,h3,_,h4⟩
    ·rcases hW with hW|⟨Xf,ha⟩
     ·exact (ON (.inl h) hR hW).elim
     ·have:=hn Xf
      simp[Qw,rdA,hx,ha]at this
    ·match S,h1 with
     | some (true,A),_=>exact hh h4 A rfl i (hA A rfl h3)
    ·rw[hx]at h4; cases h4
    ·rw[(Ae (tt:=tt) h4).1]at hR; cases hR
    ·rw[hx]at h4; cases h4
    ·match S,h1 with
     | some (false,A),_=>exact hh2 h4 A rfl i (hB A rfl h3)
   ·rcases (lk h).2 with ⟨h,hn⟩|⟨h1,⟨_,_,h4⟩|⟨_,_,h4⟩|h4|⟨h4,h3,_⟩⟩|⟨_,_,_,h4⟩
    ·rcases hW with hW|⟨Xf,ha⟩
     ·exact (ON (.inr h) hR hW).elim
     ·have:=hn Xf
      simp[Qw,rdA,hx,ha]at this
    ·rw[hx]at h4; cases h4
    ·rw[hR]at h4; cases h4
    ·rw[(Ae (tt:=tt) h4).2]at hR; cases hR
    ·match S,h1 with
     | some (true,A),_=>exact hh h4 A rfl i (hA A rfl h3)
    ·rw[Mi (tt:=tt) h4]at hR; cases hR

section
variable {E:Env R} {S:Option (Bool×List Nat)} {base:Nat} {ops:Array Oper} {k:St→Option R} {r:R}

theorem pull (hE:R3 P E) {x:qA} {e:T5} {st0:St} (hc:calm (da tt x.2.1.op)=true) (he:e.dst=x.2.1.dst) (Rg:∀i ob,e.put=some (i,ob)→i=x.2.2∧da tt x.2.1.op = .A)
  (ZZ:∀xn,xN S E ops.toList tt base x.2.1 st0 xn→∀k,one tt E S base ops.toList x.2.1 x.2.2 xn k=k (Z0 xn e)) (post:List qA) :
  ∀(pre:List qA) (st:St) (h:ai),Good tt base ops.toList (pre++x::post) h→(∀y∈pre,Dd tt E (S.map (·.1)) ops.toList y.2.1 x.2.1=true)→xN S E ops.toList tt base x.2.1 st0 st →
   DE tt E S base ops.toList (pre++x::post) st k=DE tt E S base ops.toList (pre++post) (Z0 st e) k
 | [],st,_,_,_,ha=>ZZ st ha _
 | y::pre,st,h,g,hp,ha=>by
  have hpy:=hp y (by simp)
  have gx:aS tt x.2.1=true→base≤x.2.2:=fun hx=>(g.slot x (by simp) hx).1
  have gy:aS tt y.2.1=true→base≤y.2.2:=fun hx=>(g.slot y (by simp) hx).1
  have glt:aS tt x.2.1=true→aS tt y.2.1=true→y.2.2<x.2.2:=fun hx hy=>by
   have:=g.apart
   rw[List.cons_append,List.pairwise_cons]at this
   exact this.1 x (by simp) hy hx
  have gne:aS tt x.2.1=true→aS tt y.2.1=true→x.2.2≠y.2.2:=fun hx hy=>by have:=glt hx hy; omega
  have GD:FI (cr tt E x.2.1.op) (cr tt E y.2.1.op)=true∨(lE y.2.1.op=true∧S.map (·.1)≠some true∧(aS tt x.2.1=true→y.2.2<x.2.2))∨(da tt x.2.1.op = .R∧lE y.2.1.op=true)∨(da tt x.2.1.op = .R∧gl E y.2.1.op=true)∨(da tt x.2.1.op = .R∧cr tt E y.2.1.op = .F)∨(da tt x.2.1.op = .A∧S.map (·.1)=some true∧cr tt E y.2.1.op = .F∧gl E y.2.1.op=false∧Hb tt ops.toList base y.2.1≤x.2.2)∨(da tt x.2.1.op = .R∧da tt y.2.1.op = .W):=by
   rcases (lk hpy).2 with ⟨hpo,Zh⟩|⟨hSo,⟨_,_,hF⟩|⟨hF,hsf,hA⟩|hW|⟨hF,_,hR⟩⟩|⟨_,_,_,hW⟩
   rotate_left
   rotate_left
   ·have eQ:Hb tt ops.toList base y.2.1≤x.2.2:=by
     have:=g.cap
     rw[List.cons_append,List.pairwise_cons]at this
     exact this.1 x (by simp) (by simp[aS,hA])
    exact .inr (.inr (.inr (.inr (.inr (.inl ⟨hA,hSo,hF,hsf,eQ⟩)))))
   ·rw[(Ae (tt:=tt) hW).2]at hc; cases hc
   ·exact .inr (.inr (.inr (.inr (.inl ⟨I7 hR (by simp) (by simp),hF⟩))))
   ·rw[Mi (tt:=tt) hW]at hc; cases hc
   rotate_left
   ·have hC:da tt x.2.1.op = .C:=by
     unfold cr at hF
     split at hF
     ·assumption
     ·rw[hF]at hc; cases hc
    rw[hC]at hc; cases hc
   rcases (wi hpo).2 with h|⟨h,h'⟩|⟨_,h⟩|⟨h,h'⟩|⟨_,h⟩
   ·exact .inl (Mg h)
   ·refine .inr (.inl ⟨h,fun Xf => ?_,fun hx=>glt hx (by simp[aS,By h])⟩)
    have:=Zh Xf
    rcases h' with h'|h' <;> simp[Qw,rdA,h,h']at this
   ·rw[By h]at hc; cases hc
   ·exact .inr (.inr (.inr (.inl ⟨I7 h' (by simp) (by simp),h⟩)))
   ·rw[Mj h]at hc; cases hc
  simp only[List.cons_append,DE]
  rw[T8 GD (Mf (lk hpy).1) hc he Rg gne gx fun hx=>g.top x (by simp) hx]
  refine I6 hE gy fun v Wl hh => ?_
  exact pull hE hc he Rg ZZ post pre _ h (g.sub (List.sublist_cons_self _ _)) (fun z hz=>hp z (by simp[hz])) (ha.trans (BC (.inr hpy) rfl hh))

theorem find (T:tq P tt) (hE:R3 P E) {x:qA} (post:List qA):∀(pre:List qA) (w:World) (c:eT) (st:St) (a:Act),GH w c st a→Good tt base ops.toList (pre++x::post) st.hp→(∀y∈pre,Dd tt E (S.map (·.1)) ops.toList y.2.1 x.2.1=true) →
  DE tt E S base ops.toList (pre++x::post) st k=some r→∃oc k',xN S E ops.toList tt base x.2.1 st oc∧one tt E S base ops.toList x.2.1 x.2.2 oc k'=some r
 | [],_,_,st,_,_,_,_,hk=>⟨st,_,⟨fun _ _=>rfl,fun _ _ _ _ _=>rfl⟩,hk⟩
 | y::pre,w,c,st,a,dV,g,hp,hk=>by
  simp only[List.cons_append,DE]at hk
  obtain ⟨w1,c1,I4,a1,v,s1,hk1,hf,hh,kp⟩:=Vs T hE hk dV (fun ha=>g.slot y (by simp) ha)
  obtain ⟨oc,k',h1,h2⟩:=find T hE post pre w1 c1 I4 a1 s1 (Good.step (pre := []) g kp) (fun z hz=>hp z (by simp[hz])) hk1
  exact ⟨oc,k',(BC (.inr (hp y (by simp))) hf hh).trans h1,h2⟩

theorem Xh (hE:R3 P E) {x:qA} (post:List qA):∀(pre:List qA) (st:St) (h:ai),Good tt base ops.toList (pre++x::post) h→(∀y∈pre,Dd tt E (S.map (·.1)) ops.toList y.2.1 x.2.1=true∧(calm (da tt y.2.1.op)=true∨(S.map (·.1)=some true∧Si ops.toList y.2.1 x.2.1=true))) →
  DE tt E S base ops.toList (pre++x::post) st k=some r→one tt E S base ops.toList x.2.1 x.2.2 st (fun I4=>DE tt E S base ops.toList (pre++post) I4 k)=some r
 | [],_,_,_,_,hk=>hk
 | y::pre,st,h,g,hp,hk=>by
  obtain ⟨hpy,vg⟩:=hp y (by simp)
  simp only[List.cons_append,DE]at hk ⊢
  rcases vg with vg|⟨hSo,hW⟩
  rotate_left
  ·have hvy:kn ops.toList y.2.1=true∨m3 ops.toList y.2.1=true:=(Fa hW).imp (·.1) (·.1)
   have ZO:kn ops.toList x.2.1=true∨m3 ops.toList x.2.1=true:=((Fa hW).imp (·.2) (·.2)).symm
   obtain ⟨fr,hp0⟩:=st
   obtain ⟨sy,i,ob,iy,hk1,ny⟩:=OM hvy hk
   have ih:=Xh hE post pre _ h (g.sub (List.sublist_cons_self _ _)) (fun z hz=>hp z (by simp[hz])) hk1
   obtain ⟨sx,j,ob',ix,FK,nx⟩:=OM ZO ih
   have gX:i≠j:=by
    match S,hSo,sy,sx with
    | some (true,A),_,sy,sx =>
     simp only[Gv,(Ae (tt:=tt) hW).1,Bool.and_eq_true,Bool.or_eq_true,Bool.not_eq_true',List.all_eq_true]at sy
     simp only[Gv,(Ae (tt:=tt) hW).2,Bool.and_eq_true,Bool.or_eq_true,Bool.not_eq_true',List.all_eq_true]at sx
     rintro rfl
     rcases Fa hW with ⟨g1,g2⟩|⟨g1,g2⟩
     ·have a1:=sy.1.resolve_left (by simp[g1]) i iy
      have a2:=sx.2.resolve_left (by simp[g2]) i ix
      rw[a1]at a2; cases a2
     ·have a1:=sy.2.resolve_left (by simp[g1]) i iy
      have a2:=sx.1.resolve_left (by simp[g2]) i ix
      rw[a2]at a1; cases a1
   rw[nx hp0 _ _ (bm _ gX).symm,ny (hp0.set j ob') _ _ (bm _ (Ne.symm gX)),←List.set_comm _ _ gX]
   exact FK
  obtain ⟨e,h1,h2,h3,h4⟩:=T6 vg hk
  have gx:aS tt x.2.1=true→base≤x.2.2:=fun hx=>(g.slot x (by simp) hx).1
  have gy:aS tt y.2.1=true→base≤y.2.2:=fun hx=>(g.slot y (by simp) hx).1
  have gne:aS tt y.2.1=true→aS tt x.2.1=true→y.2.2≠x.2.2:=fun hy hx=>by
   have:=g.apart
   rw[List.cons_append,List.pairwise_cons]at this
   exact Nat.ne_of_lt (this.1 x (by simp) hy hx)
  have GD:FI (cr tt E y.2.1.op) (cr tt E x.2.1.op)=true∨(lE x.2.1.op=true∧S.map (·.1)≠some true∧(aS tt y.2.1=true→x.2.2<y.2.2))∨(da tt y.2.1.op = .R∧lE x.2.1.op=true)∨(da tt y.2.1.op = .R∧gl E x.2.1.op=true)∨(da tt y.2.1.op = .R∧cr tt E x.2.1.op = .F)∨(da tt y.2.1.op = .A∧S.map (·.1)=some true∧cr tt E x.2.1.op = .F∧gl E x.2.1.op=false∧Hb tt ops.toList base x.2.1≤y.2.2)∨(da tt y.2.1.op = .R∧da tt x.2.1.op = .W):=by
   rcases (lk hpy).2 with ⟨hpo,_⟩|⟨_,⟨_,hR,hF⟩|⟨hF,_⟩|hW|⟨hF,_⟩⟩|⟨_,_,hR,hW⟩
   rotate_left
   ·exact .inr (.inr (.inr (.inr (.inl ⟨I7 hR (by simp) (by simp),hF⟩))))
   ·have hC:da tt y.2.1.op = .C:=by
     unfold cr at hF
     split at hF
     ·assumption
     ·rw[hF]at vg; cases vg
    rw[hC]at vg; cases vg
   ·rw[(Ae (tt:=tt) hW).1]at vg; cases vg
   ·have hC:da tt y.2.1.op = .C:=by
     unfold cr at hF
     split at hF
     ·assumption
     ·rw[hF]at vg; cases vg
    rw[hC]at vg; cases vg
   ·exact .inr (.inr (.inr (.inr (.inr (.inr ⟨I7 hR (by simp) (by simp),Mi hW⟩)))))
   rcases (wi hpo).2 with h|⟨h,_⟩|⟨h,h'⟩|⟨h,_⟩|⟨h,h'⟩
   ·exact .inl h
   ·rw[By h]at vg; cases vg
   ·exact .inr (.inr (.inl ⟨I7 h (by simp) (by simp),h'⟩))
   ·rw[Mj h]at vg; cases vg
   ·exact .inr (.inr (.inr (.inl ⟨I7 h (by simp) (by simp),h'⟩)))
  have ih:=Xh hE post pre (Z0 st e) h (g.sub (List.sublist_cons_self _ _)) (fun z hz=>hp z (by simp[hz])) h3
  rw[T8 GD (lk hpy).1 vg h1 h2 gne gy fun hy=>g.top y (by simp) hy]at ih
  rw[←ih]
  refine I6 hE gx fun v Wl hh => ?_
  exact h4 _ (BC (.inl hpy) rfl hh) _

theorem bubble (T:tq P tt) (hE:R3 P E) {x:qA} {pre post:List qA} {st:St} {a:Act} (dV:GH w c st a) (g:Good tt base ops.toList (pre++x::post) st.hp) (hp:∀y∈pre,Dd tt E (S.map (·.1)) ops.toList y.2.1 x.2.1=true)
  (hk:DE tt E S base ops.toList (pre++x::post) st k=some r):one tt E S base ops.toList x.2.1 x.2.2 st (fun I4=>DE tt E S base ops.toList (pre++post) I4 k)=some r:=by
 by_cases hc:calm (da tt x.2.1.op)=true
 ·obtain ⟨oc,k',h1,h2⟩:=find T hE post pre w c st a dV g hp hk
  obtain ⟨e,e1,e2,_,e4⟩:=T6 hc h2
  rw[e4 st h1.symm,←pull hE hc e1 e2 e4 post pre st _ g hp h1.symm]
  exact hk
 ·refine Xh hE post pre st _ g (fun y hy=>⟨hp y hy,?_⟩) hk
  have h0:=(lk (hp y hy)).2
  by_cases hfw:S.map (·.1)=some true∧Si ops.toList y.2.1 x.2.1=true
  ·exact .inr hfw
  refine .inl ?_
  have hy:cr tt E y.2.1.op = .P∨cr tt E y.2.1.op = .R∨cr tt E y.2.1.op = .A:=by
   have hx:¬calm (cr tt E x.2.1.op)=true:=by
    unfold cr
    split
    ·cases jt E x.2.1.op <;> simp[calm]
    ·exact hc
   rcases h0 with ⟨h0,_⟩|⟨hSo,⟨_,h0,_⟩|⟨_,_,h0⟩|h0|⟨_,_,h0⟩⟩|⟨_,_,h0,_⟩
   rotate_left
   ·exact .inr (.inl h0)
   ·exact (hc (by rw[h0]; rfl)).elim
   ·exact (hfw ⟨hSo,h0⟩).elim
   ·exact (hx (by rw[h0]; rfl)).elim
   ·exact .inr (.inl h0)
   have h1:=(wi h0).2
   rcases h1 with h1|⟨_,h1⟩|⟨h1,_⟩|⟨_,h1⟩|⟨h1,_⟩
   ·revert h1 hx
    cases cr tt E x.2.1.op <;> cases cr tt E y.2.1.op <;> simp[FI,calm]
   ·exact (hx (by rcases h1 with h|h <;> rw[h] <;> rfl)).elim
   ·exact .inr (.inl h1)
   ·exact (hx (by rw[h1]; rfl)).elim
   ·exact .inr (.inl h1)
  have gX:da tt y.2.1.op ≠ .C:=fun e=>by
   unfold cr at hy
   rw[e]at hy
   cases hp2:jt E y.2.1.op <;> simp[hp2]at hy
  rw[lH gX]at hy
  rcases hy with h|h|h <;> rw[h] <;> rfl
end

theorem pS:∀(l:List Oper) (i id:Nat) (x:qA),x∈number tt l i id→i≤x.1∧x.1<i+l.length∧l[x.1 - i]? = some x.2.1∧id≤x.2.2∧(aS tt x.2.1=true→x.2.2<id+(l.filter (aS tt)).length)
 | [],_,_,_,h=>by simp[number]at h
 | o::l,i,id,x,h=>by
  simp only[number,List.mem_cons]at h
  rcases h with rfl|h
  ·refine ⟨Nat.le_refl _,by simp,by simp,Nat.le_refl _,fun ha => ?_⟩
   simp only at ha
   simp only[List.filter_cons_of_pos ha,List.length_cons]
   omega
  ·obtain ⟨h1,h2,h3,h4,h5⟩:=pS l _ _ x h
   have e:x.1 - i=(x.1 - (i+1))+1:=by omega
   refine ⟨by omega,by simp; omega,by rw[e]; simpa using h3,?_,fun ha => ?_⟩
   ·split at h4 <;> omega
   ·have:=h5 ha
    by_cases ho:aS tt o=true
    ·rw[if_pos ho]at this
     rw[List.filter_cons_of_pos ho,List.length_cons]; omega
    ·rw[if_neg ho]at this
     rw[List.filter_cons_of_neg ho]; omega

theorem BD:∀(l:List Oper) (i id:Nat),(number tt l i id).Pairwise fun z z'=>z.1<z'.1∧(aS tt z.2.1=true→aS tt z'.2.1=true→z.2.2<z'.2.2)
 | [],_,_=>by simp[number]
 | o::l,i,id=>by
  simp only[number,List.pairwise_cons]
  refine ⟨fun z hz => ?_,BD l _ _⟩
  obtain ⟨h1,_,_,h4,_⟩:=pS l _ _ z hz
  refine ⟨by omega,fun ha _ => ?_⟩
  rw[if_pos ha]at h4
  omega

theorem Xi {f p:Oper→Bool} {o:Oper} {l:List Oper} (h:p o=false):∀pre:List Oper,(((pre++o::l).takeWhile p).filter f).length≤(pre.filter f).length
 | []=>by simp[h]
 | z::pre=>by
  rw[List.cons_append,List.takeWhile_cons]
  cases p z with
  | false=>simp
  | true =>
   have:=Xi h pre (f:=f) (p:=p) (o:=o) (l:=l)
   simp only[if_true,List.filter_cons]
   cases f z
   ·simpa using this
   ·simpa using this
theorem J0 {all:List Oper} {base:Nat}:∀(l pre:List Oper) (i id:Nat),all=pre++l→id=base+(pre.filter (aS tt)).length→(number tt l i id).Pairwise fun z z'=>aS tt z'.2.1=true→Hb tt all base z.2.1≤z'.2.2
 | [],_,_,_,_,_=>by simp[number]
 | o::l,pre,i,id,ha,hi=>by
  simp only[number,List.pairwise_cons]
  refine ⟨fun z hz _ => ?_,J0 l (pre ++ [o]) _ _ (by simp[ha]) ?_⟩
  ·have h4:=(pS l _ _ z hz).2.2.2.1
   have:=Xi (f:=aS tt) (p:=fun z=>z.dst != o.dst) (o:=o) (l:=l) (by simp) pre
   unfold Hb
   rw[ha]
   split at h4 <;> omega
  ·rw[List.filter_append,List.length_append,hi]
   by_cases ho:aS tt o=true
   ·rw[if_pos ho]; simp[ho]; omega
   ·rw[if_neg ho]; simp[ho]

theorem Mk:∀(l:List Oper) (i id j:Nat),i≤j→j<i+l.length→∃x∈number tt l i id,x.1=j
 | [],i,_,j,h1,h2=>by simp at h2; omega
 | o::l,i,id,j,h1,h2=>by
  by_cases e:i=j
  ·exact ⟨(i,o,id),by simp[number],e⟩
  ·obtain ⟨x,hx,ex⟩:=Mk l (i+1) (if aS tt o then id+1 else id) j (by omega) (by simp at h2; omega)
   exact ⟨x,by simp[number,hx],ex⟩

structure Left (ops:Array Oper) (b:List (List Nat)) (listed:Array Bool) (rem:List qA):Prop where
 size:listed.size=ops.size
 sorted:rem.Pairwise fun z z'=>z.1<z'.1
 op:∀x∈rem,ops[x.1]? = some x.2.1
 un:∀x∈rem,listed.getD x.1 true=false
 all:∀i,listed.getD i true=false→∃x∈rem,x.1=i
 closed:∀m,listed.getD m false=true→∀i∈b.getD m [],listed.getD i false=true

theorem Ml {listed:Array Bool} {i:Nat} (h:i<listed.size):listed.getD i false=true↔¬listed.getD i true=false:=by
 simp[h]

theorem Vu (T:tq P tt) {E:Env R} (hE:R3 P E) {S:Option (Bool×List Nat)} {base:Nat} {ops:Array Oper} {b:List (List Nat)} {k:St→Option R} {r:R} {Q:Exit→Act→World→Prop}
  (hpair:∀i j x y,i<j→ops[i]? = some x→ops[j]? = some y→i∈b.getD j []∨Dd tt E (S.map (·.1)) ops.toList x y=true)
  (hback:∀(j:Nat) (y:Oper),ops[j]? = some y→∀e∈y.after,Region.binds .any e=true→e.on<j)
  (hclo:∀(j:Nat) (y:Oper),ops[j]? = some y→∀i∈b.getD j [],∃e∈y.after,Region.binds .any e=true∧(e.on=i∨i∈b.getD e.on [])) :
  ∀(fuel:Nat) (listed:Array Bool) (rem:List qA) (w:World) (c:eT) (st:St) (a:Act),rem.length≤fuel→Left ops b listed rem→Good tt base ops.toList rem st.hp→GH w c st a→DE tt E S base ops.toList rem st k=some r →
   W8 w c st a k r (Q .normal)→wpAny P .any ops Q fuel listed a w:=by
 intro fuel
 -- if nothing is ready, nothing is left
 have hnone:∀listed rem,Left ops b listed rem→Region.ready .any ops listed = []→rem = []:=by
  intro listed rem lf hr
  cases rem with
  | nil=>rfl
  | cons x rest =>
   have:x.1∈Region.ready .any ops listed:=by
    rw[mem_ready]
    refine ⟨lf.un x (by simp),x.2.1,lf.op x (by simp),fun e he hb => ?_⟩
    have dH:=hback x.1 x.2.1 (lf.op x (by simp)) e he hb
    have hx:x.1<ops.size:=(Array.getElem?_eq_some_iff.1 (lf.op x (by simp))).1
    rw[Ml (by rw[lf.size]; omega)]
    intro hun
    obtain ⟨y,hy,ey⟩:=lf.all _ hun
    rcases List.mem_cons.1 hy with rfl|hy
    ·omega
    ·have:=(List.pairwise_cons.1 lf.sorted).1 y hy
     omega
   rw[hr]at this
   cases this
 induction fuel with
 | zero =>
  intro listed rem w c st a hl lf g dV hk go
  obtain rfl:rem = []:=List.eq_nil_of_length_eq_zero (by omega)
  refine ⟨?_,go a w st c dV (.refl _ _ _) rfl hk⟩
  cases hr:Region.ready .any ops listed with
  | nil=>rfl
  | cons i l =>
   have hi:i∈Region.ready .any ops listed:=by rw[hr]; simp
   obtain ⟨x,hx,_⟩:=lf.all i (mem_ready.1 hi).1
   cases hx
 | succ fuel ih =>
  intro listed rem w c st a hl lf g dV hk go
  refine ⟨fun hr => ?_,fun i hi => ?_⟩
  ·obtain rfl:=hnone _ _ lf hr
   exact go a w st c dV (.refl _ _ _) rfl hk
  ·obtain ⟨hun,o,ho,hdone⟩:=mem_ready.1 hi
   obtain ⟨x,hx,rfl⟩:=lf.all i hun
   obtain ⟨pre,post,rfl⟩:=List.append_of_mem hx
   have hox:=lf.op x (by simp)
   rw[hox]at ho
   cases ho
   have T9:=lf.sorted
   rw[List.pairwise_append,List.pairwise_cons]at T9
   have hbx:∀j∈b.getD x.1 [],listed.getD j false=true:=fun j hj=>by
    obtain ⟨e,he,hb,hor⟩:=hclo x.1 x.2.1 hox j hj
    have hel:=hdone e he hb
    rcases hor with rfl|hj
    ·exact hel
    ·exact lf.closed _ hel j hj
   have hpr:∀y∈pre,Dd tt E (S.map (·.1)) ops.toList y.2.1 x.2.1=true:=fun y hy=>by
    rcases hpair y.1 x.1 y.2.1 x.2.1 (T9.2.2 y hy x (by simp)) (lf.op y (by simp[hy])) hox with h1|h1
    ·have h2:=hbx _ h1
     have h3:=lf.un y (by simp[hy])
     have hy':y.1<ops.size:=(Array.getElem?_eq_some_iff.1 (lf.op y (by simp[hy]))).1
     rw[Ml (by rw[lf.size]; exact hy')]at h2
     exact (h2 h3).elim
    ·exact h1
   have Hy:=bubble T hE dV g hpr hk
   have hsize:x.1<listed.size:=by rw[lf.size]; exact (Array.getElem?_eq_some_iff.1 hox).1
   have lf':Left ops b (listed.setIfInBounds x.1 true) (pre++post):=by
    have hs:List.Sublist (pre++post) (pre++x::post):=List.Sublist.append (List.Sublist.refl _) (List.sublist_cons_self _ _)
    have gX:∀y∈pre++post,x.1≠y.1:=fun y hy=>by
     rcases List.mem_append.1 hy with hy|hy
     ·have:=T9.2.2 y hy x (by simp); omega
     ·have:=T9.2.1.1 y hy; omega
    refine ⟨by simp[lf.size],lf.sorted.sublist hs,fun y hy=>lf.op y (hs.subset hy),fun y hy => ?_,fun j hj => ?_,fun m hm j hj => ?_⟩
    ·rw[getD_set_ne true (gX y hy)]; exact lf.un y (hs.subset hy)
    ·by_cases e:x.1=j
     ·subst e; simp[hsize]at hj
     ·rw[getD_set_ne true e]at hj
      obtain ⟨y,hy,ey⟩:=lf.all j hj
      refine ⟨y,?_,ey⟩
      rcases List.mem_append.1 hy with h1|h1
      ·exact List.mem_append_left _ h1
      ·rcases List.mem_cons.1 h1 with rfl|h1
       ·exact (e ey).elim
       ·exact List.mem_append_right _ h1
    ·refine getD_set_true ?_
     by_cases e:x.1=m
     ·subst e; exact hbx j hj
     ·rw[getD_set_ne false e]at hm; exact lf.closed m hm j hj
   have Wj:(pre++post).length≤fuel:=by simp at hl ⊢; omega
   unfold wpOp
   simp only[hox]
   rcases Bz dV Hy with ⟨hw,Hy⟩|⟨hw,Hy⟩
   ·rw[if_pos hw]
    have Hy:uT tt E (Wf tt S base x.2.1) x.2.2 x.2.1 st (fun I4=>DE tt E S base ops.toList (pre++post) I4 k)=some r:=by
     cases hS:Gv tt E base S ops.toList x.2.1 (ev st.fr) st.hp with
     | true=>rw[hS]at Hy; exact Hy
     | false=>rw[hS]at Hy; cases Hy
    refine .inl (DT T hE Hy dV (fun ha=>(g.slot x (by simp) ha).2) fun d w' oc c' v SV xt kp _ _ mV => ?_)
    exact ih _ _ w' c' oc _ Wj lf' (g.step kp) SV mV fun a2 w2 xn c2 s2 x2 d2 k2=>go a2 w2 xn c2 s2 (xt.trans x2) (d2.trans (put_defers _ _ _)) k2
   ·rw[if_neg (by simp[hw])]
    exact ih _ _ w c ⟨gM st.fr x.2.1.dst (.tuple []),st.hp⟩ (a.put x.2.1.dst undef) Wj lf' (g.step (.refl _ _ _)) ⟨dV.wf,vO dV.fr _ I3⟩ Hy fun a2 w2 xn c2 s2 x2 d2 k2=>go a2 w2 xn c2 s2 x2 (d2.trans (put_defers _ _ _)) k2

theorem Fb (n:Nat):Ext w h c { w with drawn:=n } h c where
 os:=rfl
 tape:=rfl
 output:=rfl
 size:=Nat.le_refl _
 used:=fun _ hi=>hi
 same:=fun i hi hd=>⟨Ac (E7 hi.2 hd) (fun _ _ _ => .inr trivial),rfl,rfl⟩
 cell:=fun _ _ _ _=>rfl
 block:=fun _ _ _=>rfl
 tp:=fun _ _ _ ho=>ho
 ext:=rfl
 arr:=fun b arr e fz hb=>⟨arr,fz,hb,rfl⟩

theorem Xj (wf:WF w h c) (n:Nat):WF { w with drawn:=n } h c where
 lay:=wf.nz (Fb n)
 uU:=wf.uU
 la:=wf.la
 obj:=fun i hi=>by
  by_cases hl:(h.at i).live
  ·exact (wf.obj i hi).pP (Fb n) (fun _ _=>rfl) rfl rfl
  ·have h0:h.at i = .free∨h.at i = .dead:=by revert hl; cases h.at i <;> simp[aP.live]
   rcases h0 with h0|h0 <;> rw[h0] <;> trivial
 inj:=wf.inj

theorem J1 (M:List Nat) (i:Nat):∀(es:List Nat) (m:Nat),(es.foldl (fun m e=>m ||| (Nat.pow 2 e ||| M.getD e 0)) m).testBit i=true→m.testBit i=true∨∃e∈es,e=i∨(M.getD e 0).testBit i=true
 | [],m,h => .inl h
 | e::es,m,h=>by
  rcases J1 M i es _ h with h|⟨x,hx,h⟩
  ·rw[Nat.testBit_or,Nat.testBit_or,Bool.or_eq_true,Bool.or_eq_true]at h
   rcases h with h|h|h
   ·exact .inl h
   ·have h':(2 ^ e).testBit i=true:=h
    rw[Nat.testBit_two_pow]at h'
    exact .inr ⟨e,by simp, .inl (of_decide_eq_true h')⟩
   ·exact .inr ⟨e,by simp, .inr h⟩
  ·exact .inr ⟨x,by simp[hx],h⟩

theorem DV {n j i:Nat} {M:List Nat} (hj:j<n):i∈(beforeL n M).getD j []↔i<n∧(M.getD j 0).testBit i=true:=by
 unfold beforeL
 rw[List.getD_eq_getElem?_getD,List.getElem?_map,List.getElem?_range hj]
 simp

theorem SZ (T:tq P tt) (hm:P.follows .mixedOrders=true) {E:Env R} (hE:R3 P E) {id:Nat} {ops:Array Oper} {k:St→Option R} {r:R} {Q:Exit→Act→World→Prop} {st:St} {a:Act}
  (hk:E4 tt E ops.toList true st k=some r) (dV:GH w c st a) (go:W8 w c st a k r (Q .normal)):(Code.region id ops true).wp P Q a w:=by
 obtain ⟨S,hd,hk⟩:∃S:Option (Bool×List Nat),Bp tt E (S.map (·.1)) ops.toList=true∧DE tt E S st.hp.length ops.toList (number tt ops.toList 0 st.hp.length) ⟨st.fr,st.hp++List.replicate (ops.toList.filter (aS tt)).length .free⟩ k=some r:=by
  simp only[E4,if_true]at hk
  split at hk
  ·rename_i hd
   rw[PK _ 0]at hk
   exact ⟨none,WA hd,hk⟩
  ·split at hk
   ·rename_i hd
    rw[Lh _ 0]at hk
    exact ⟨some (true,Sj tt ops.toList st.fr),hd,hk⟩
   ·split at hk
    ·rename_i hd
     rw[Lh _ 0]at hk
     exact ⟨some (false,LD tt _ ops.toList st.fr),hd,hk⟩
    ·cases hk
 refine wp_region_any hm ?_
 have vM:∀j,j<ops.size→((List.range j).all (fun i=>((Ha ops.toList).getD j 0).testBit i||Dd tt E (S.map (·.1)) ops.toList (ops.toList.getD i default) (ops.toList.getD j default))=true ∧
   (Bo (ops.toList.getD j default)).all (fun i=>Nat.blt i j)=true∧(Ha ops.toList).getD j 0=K7 (Ha ops.toList) (Bo (ops.toList.getD j default))):=by
  intro j hj
  unfold Bp at hd
  simp only at hd
  rw[List.all_eq_true]at hd
  have:=hd j (by simpa using hj)
  simp only[Bool.and_eq_true]at this
  exact ⟨this.1.1,this.1.2,Nat.eq_of_beq_eq_true this.2⟩
 have DQ:∀(j:Nat) (y:Oper),ops[j]? = some y→ops.toList.getD j default=y∧j<ops.size:=fun j y hy=>by
  refine ⟨?_,(Array.getElem?_eq_some_iff.1 hy).1⟩
  rw[List.getD,Array.getElem?_toList,hy]; rfl
 have hbind:∀(y:Oper) (n:Nat),n∈Bo y↔∃e∈y.after,Region.binds .any e=true∧e.on=n:=by
  intro y n
  simp[Bo,List.mem_map,List.mem_filter,and_assoc]
 have SV:GH { w with drawn:=w.drawn+1 } c ⟨st.fr,st.hp++List.replicate (ops.toList.filter (aS tt)).length .free⟩ a :=
  ⟨Xj (DU dV.wf _) _,(dV.fr.mono (nA _)).mono (Fb _)⟩
 refine Vu T hE (S:=S) (base:=st.hp.length) (b:=beforeL ops.size (Ha ops.toList)) (fun i j x y tR hx hy => ?_) (fun j y hy e he hb => ?_) (fun j y hy i hi => ?_) ops.size _ (number tt ops.toList 0 st.hp.length) _ c _ a ?_ ?_ ?_ SV hk ?_
 ·obtain ⟨h1,h2⟩:=DQ i x hx
  obtain ⟨h3,h4⟩:=DQ j y hy
  have:=List.all_eq_true.1 (vM j h4).1 i (by simpa using tR)
  rw[h1,h3,Bool.or_eq_true]at this
  rcases this with h|h
  ·exact .inl ((DV h4).2 ⟨h2,h⟩)
  ·exact .inr h
 ·obtain ⟨h3,h4⟩:=DQ j y hy
  have:=(vM j h4).2.1
  rw[h3,List.all_eq_true]at this
  simpa using this e.on ((hbind y _).2 ⟨e,he,hb,rfl⟩)
 ·obtain ⟨h3,h4⟩:=DQ j y hy
  have heq:=(vM j h4).2.2
  have dH:=(vM j h4).2.1
  rw[h3]at heq dH
  obtain ⟨hin,hbit⟩:=(DV h4).1 hi
  rw[heq]at hbit
  unfold K7 at hbit
  rcases J1 _ i _ _ hbit with h|⟨n,hn,h⟩
  ·simp at h
  ·obtain ⟨e,he,hb,rfl⟩:=(hbind y n).1 hn
   refine ⟨e,he,hb,h.imp (fun h=>h) fun h => ?_⟩
   have:=List.all_eq_true.1 dH e.on hn
   have hon:e.on<j:=by simpa using this
   exact (DV (Nat.lt_trans hon h4)).2 ⟨hin,h⟩
 ·have:∀(l:List Oper) (i id:Nat),(number tt l i id).length=l.length:=by
   intro l
   induction l with
   | nil=>intros; rfl
   | cons o l ih=>intros; simp[number,ih]
  rw[this]; simp
 ·refine ⟨by simp,(BD _ _ _).imp fun h=>h.1,fun x hx => ?_,fun x hx => ?_,fun i hi => ?_,fun m hm => ?_⟩
  ·obtain ⟨_,_,h3,_⟩:=pS _ _ _ x hx
   simpa using h3
  ·obtain ⟨_,h2,_⟩:=pS _ _ _ x hx
   simp at h2
   simp[h2]
  ·have:i<ops.size:=by
    rcases Nat.lt_or_ge i ops.size with h|h
    ·exact h
    ·simp[Nat.not_lt.2 h]at hi
   exact Mk _ 0 _ i (Nat.zero_le _) (by simpa using this)
  ·rcases Nat.lt_or_ge m ops.size with h|h
   ·simp[h]at hm
   ·simp[Nat.not_lt.2 h]at hm
 ·refine ⟨fun z hz ha=>(pS _ _ _ z hz).2.2.2.2 ha,J0 ops.toList [] 0 _ rfl (by simp),fun z hz ha => ?_,(BD _ _ _).imp fun h=>h.2⟩
  obtain ⟨_,_,_,h4,h5⟩:=pS _ _ _ z hz
  have h5:=h5 ha
  refine ⟨h4,by simp; omega,?_⟩
  rw[eP h4]
  have:z.2.2 - st.hp.length<(ops.toList.filter (aS tt)).length:=by omega
  simp[ai.at,List.getD,List.getElem?_replicate,this]
 ·exact fun a2 w2 xn c2 s2 x2 d2 k2=>go a2 w2 xn c2 s2 (((nA _).trans (Fb _)).trans x2) d2 k2
end

section
variable {P:Program} {tt:ca} {w w':World} {h h':ai} {c c':eT} {R:Type}

theorem J2 (h:ai):∀(n:Nat) (l rest seen:List Nat),(seen++l).Nodup→l.length≤n→∃t,reach h n (l++rest) seen=seen++l++t
 | n, [],rest,seen,_,_=>by
  have key:∀(n:Nat) (todo seen:List Nat),∃t,reach h n todo seen=seen++t:=by
   intro n
   induction n with
   | zero=>exact fun _ _=>⟨[],by simp[reach]⟩
   | succ n ih =>
    intro todo seen
    cases todo with
    | nil=>exact ⟨[],by simp[reach]⟩
    | cons i todo =>
     simp only[reach]
     split
     ·exact ih _ _
     ·obtain ⟨t,ht⟩:=ih (todo++(h.at i).ids) (seen ++ [i])
      exact ⟨i::t,by rw[ht]; simp⟩
  obtain ⟨t,ht⟩:=key n rest seen
  exact ⟨t,by simpa using ht⟩
 | 0,i::l,_,_,_,hl=>by simp at hl
 | n+1,i::l,rest,seen,hn,hl=>by
  have hi:i∉seen:=fun hm=>by
   rw[List.nodup_append]at hn
   exact hn.2.2 i hm i (by simp) rfl
  obtain ⟨t,ht⟩:=J2 h n l (rest++(h.at i).ids) (seen ++ [i]) (by simpa using hn) (by simpa using hl)
  refine ⟨t,?_⟩
  simp only[List.cons_append,reach,List.contains_iff_mem,hi,if_false,List.append_assoc]at ht ⊢
  simpa using ht

theorem OO {w0:World} {h0:ai} {c0:eT} (x:Ext w0 h0 c0 w h c) {ord:List Nat} (hf:∀i,i<h0.length→ord[i]? = some i∨∃j,h.length≤j∧ord[i]? = some j):Ext w0 h0 c0 w (h.pick ord) (c.pick ord c.ext) where
 os:=x.os
 tape:=x.tape
 output:=x.output
 size:=x.size
 used:=fun i hi=>by
  rcases hf i hi.1 with e|⟨j,hj,e⟩
  ·refine ⟨by simpa [ai.pick]using (List.getElem?_eq_some_iff.1 e).1,?_⟩
   rw[mI,e]
   simp only[ne_eq,wz]
   exact (x.used i hi).2
  ·refine ⟨by simpa [ai.pick]using (List.getElem?_eq_some_iff.1 e).1,?_⟩
   rw[mI,e]
   simp only[ne_eq,wz,PI hj]
   intro h; cases h
 same:=fun i hi hd=>by
  rcases hf i hi.1 with e|⟨j,hj,e⟩
  rotate_left
  ·rw[mI,e]at hd
   simp only[PI hj]at hd
   exact (hd rfl).elim
  rw[mI,e]at hd ⊢
  simp only[ne_eq,Hs]at hd
  obtain ⟨s1,s2,s3⟩:=x.same i hi hd
  exact ⟨OA.2 s1,by simp[eT.pick,e,s2],by simp[eT.pick,List.getD,e,s3]⟩
 cell:=x.cell
 block:=x.block
 tp:=fun b y hb ho=>by
  obtain ⟨i,_,f,g1,g2,g3⟩:=Ab ho
  exact x.tp b y hb ⟨i,f,g1,g2,g3⟩
 ext:=x.ext
 arr:=x.arr
theorem Xk {w0:World} {h0:ai} {c0:eT} (x:Ext w0 h0 c0 w h c) {ord:List Nat} (hf:∀i,i<h0.length→ord[i]? = some i):Ext w0 h0 c0 w (h.pick ord) (c.pick ord c.ext):=OO x fun i hi => .inl (hf i hi)

theorem Hz (wf:WF w h c) {ord:List Nat} (DC:ord.Nodup):WF w (h.pick ord) (c.pick ord c.ext) :=
 T4 wf DC (fun _ _ hf=>hf.2) wf.la (fun b x ⟨i,_,f,g1,g2,g3⟩=>wf.uU b x ⟨i,f,g1,g2,g3⟩)

theorem FL {ord:List Nat} {cs:List V} {ds:List Value} (r:bl w h c cs ds):bl w (h.pick ord) (c.pick ord c.ext) (V.tP (tz ord) cs) ds :=
 r.kj (L4 fun _ _ hf=>hf.2)

theorem Vv {m:Nat} {t:List Nat} {i:Nat} (hi:i<m):(List.range m++t)[i]? = some i:=by
 rw[List.getElem?_append_left (by simpa using hi),List.getElem?_range hi]

theorem J3 (h:ai) {m n:Nat} (hmn:m≤n) (rest:List Nat):(reach h n (List.range m++rest) []).Nodup∧∀i,i<m→(reach h n (List.range m++rest) [])[i]? = some i:=by
 refine ⟨xK h _ _ _ (by simp),fun i hi => ?_⟩
 obtain ⟨t,ht⟩:=J2 h n (List.range m) rest [] (by simpa using List.nodup_range) (by simpa using hmn)
 rw[ht]
 simpa using Vv (t:=t) hi

theorem PQ {m i:Nat} (hi:i∈m4 h m):i<m:=by
 unfold m4 at hi
 rw[List.mem_filter]at hi
 simpa using hi.1
theorem PR {m:Nat} {ord:List Nat} (hn:ord.Nodup) (hf:∀i,i<m→ord[i]? = some i):(Hc h m ord).Nodup∧∀i,i<m→(Hc h m ord)[i]? = some i∨∃j,h.length≤j∧(Hc h m ord)[i]? = some j:=by
 unfold Hc
 cases hc:((m4 h m).isEmpty || !(ord.all fun i=>Nat.blt i h.length))with
 | true=>exact ⟨hn,fun i hi => .inl (hf i hi)⟩
 | false =>
  simp only[Bool.or_eq_false_iff,Bool.not_eq_false',List.all_eq_true]at hc
  have dH:∀i∈ord,i<h.length:=fun i hi=>by simpa using hc.2 i hi
  rw[cond_false]
  refine ⟨?_,fun i hi => ?_⟩
  ·rw[List.nodup_append]
   refine ⟨?_,?_,?_⟩
   ·unfold List.Nodup
    rw[List.pairwise_map]
    refine List.Pairwise.imp_of_mem (fun {a b} ha hb hab => ?_) hn
    have h1:=dH a ha
    have h2:=dH b hb
    cases h3:(m4 h m).contains a <;> cases h4:(m4 h m).contains b <;> simp only[cond_true,cond_false,ne_eq] <;> omega
   ·unfold m4
    exact List.Nodup.sublist List.filter_sublist List.nodup_range
   ·intro a ha b hb hab
    subst hab
    rw[List.mem_map]at ha
    obtain ⟨z,hz,e⟩:=ha
    cases h3:(m4 h m).contains z with
    | true =>
     rw[h3,cond_true]at e
     have h4:=PQ hb
     have h5:=(List.getElem?_eq_some_iff.1 (hf a h4))
     have h6:=dH a (List.mem_of_getElem? (hf a h4))
     omega
    | false =>
     rw[h3,cond_false]at e
     subst e
     simp[hb]at h3
  ·have e:=hf i hi
   rw[List.getElem?_append_left (by simpa using (List.getElem?_eq_some_iff.1 e).1),List.getElem?_map,e]
   cases h3:(m4 h m).contains i with
   | true=>exact .inr ⟨h.length+i,by omega,by simp only[Option.map_some,h3,cond_true]⟩
   | false=>exact .inl (by simp only[Option.map_some,h3,cond_false])

theorem Mm {w0:World} {h0:ai} {c0:eT} {st:St} {a:Act} (dV:GH w c st a) (x:Ext w0 h0 c0 w st.hp c) (hm:h0.length≤200):∃c',GH w c' (st.gc h0.length) a∧Ext w0 h0 c0 w (st.gc h0.length).hp c':=by
 obtain ⟨h1,h2⟩:=J3 st.hp (m:=h0.length) (n:=256) (by omega) (V.nv st.fr)
 exact ⟨_,⟨Hz dV.wf h1,FL dV.fr⟩,Xk x h2⟩

theorem GK {fr:List V} {ds:List Value} (r:bl w h c fr ds) (live drop:List Nat):bl w h c (Bq live drop fr) ds:=by
 refine ⟨by simp[Bq,r.1],fun j v d hv hd => ?_⟩
 unfold Bq at hv
 rw[List.getElem?_map,List.getElem?_zipIdx]at hv
 cases e:fr[j]? with
 | none=>rw[e]at hv; cases hv
 | some u =>
  rw[e]at hv
  simp at hv
  subst hv
  have ru:=r.2 j u d e hd
  split
  ·split
   ·exact JW ru
   ·exact ru
  ·exact .undef _

theorem vP:∀(l:List (Nat×Ty)) (st:St) (c:eT) (a:Act),GH w c st a→∃c',GH w c' (Gw l st) a∧Ext w st.hp c w (Gw l st).hp c'
 | [],st,c,a,dV=>⟨c,dV, .refl _ _ _⟩
 | (d,T)::l,st,c,a,dV=>by
  have key:∀(U:Ty),(∀x,a.tmps.toList[d]? = some x→x = .slice none 0 0) →
    ∃c',GH w c' ⟨st.fr.set d (.sl U [] (.own st.hp.length)),st.hp ++ [.tok]⟩ a∧Ext w st.hp c w (st.hp ++ [.tok]) c':=by
   intro U hx
   obtain ⟨c',k1,k2,k3⟩:=Hn (id:=st.hp.length) (T:=U) (DU dV.wf 1) (by simp) (by rw[eP (Nat.le_refl _)]; simp[ai.at])
   have e:(st.hp++List.replicate 1 aP.free).set st.hp.length .tok=st.hp ++ [.tok]:=by simp
   rw[e]at k1 k2 k3
   have k4:=(nA (w:=w) (h:=st.hp) (c:=c) 1).trans k2
   refine ⟨c',⟨k1,?_⟩,k4⟩
   have rf:=dV.fr.mono k4
   refine ⟨by simp[rf.1],fun j v x hv Z2 => ?_⟩
   rw[List.getElem?_set]at hv
   by_cases hj:d=j
   ·subst hj
    rw[if_pos rfl]at hv
    split at hv
    ·cases hv
     rw[hx x Z2]
     exact k3
    ·cases hv
   ·rw[if_neg hj]at hv
    exact rf.2 j v x hv Z2
  simp only[Gw]
  have rd:=dV.fr.getD d undef
  split
  ·rename_i he
   rw[he]at rd
   obtain ⟨c',s',x'⟩:=key T fun x hx=>by
    rw[List.getD,hx]at rd
    cases rd; rfl
   obtain ⟨c2,s2,x2⟩:=vP l _ c' a s'
   exact ⟨c2,s2,x'.trans x2⟩
  ·rename_i T' l' he
   rw[he]at rd
   have hl:l' = []:=by
    generalize a.tmps.toList.getD d undef=q at rd
    cases rd with
    | sl f eQ lD hc hr vL fA =>
     have:=(vL rfl).2
     exact List.eq_nil_of_length_eq_zero (by omega)
   subst hl
   obtain ⟨c',s',x'⟩:=key T' fun x hx=>by
    rw[List.getD,hx]at rd
    simp only[Option.getD_some]at rd
    generalize hn:([]:List T'.den)=nl at rd
    cases rd with
    | sl f eQ lD hc hr vL fA =>
     obtain ⟨rfl,rfl⟩:=vL rfl
     subst hn
     rfl
   obtain ⟨c2,s2,x2⟩:=vP l _ c' a s'
   exact ⟨c2,s2,x'.trans x2⟩
  ·exact vP l st c a dV

theorem Z3 {st:St} {a:Act} {d:Nat} {v:V} {h':ai} {c':eT} (dV:GH w c st a) (he:st.fr.getD d .undef = .aI) (k1:WF w h' c') (k4:Ext w st.hp c w h' c') (k3:cd w h' c' v (.slice none 0 0)) :
  GH w c' ⟨st.fr.set d v,h'⟩ a:=by
 refine ⟨k1,?_⟩
 have rf:=dV.fr.mono k4
 refine ⟨by simp[rf.1],fun j u x hv Z2 => ?_⟩
 rw[List.getElem?_set]at hv
 by_cases hj:d=j
 ·subst hj
  rw[if_pos rfl]at hv
  split at hv
  ·cases hv
   have rd:=dV.fr.getD d undef
   rw[he,List.getD,Z2]at rd
   cases rd
   exact k3
  ·cases hv
 ·rw[if_neg hj]at hv
  exact rf.2 j u x hv Z2

theorem Ua (wf:WF w h c) (T:Ty):∃c',WF w (h ++ [.row T []]) c'∧Ext w h c w (h ++ [.row T []]) c'∧cd w (h ++ [.row T []]) c' (.row h.length 0) (.slice none 0 0):=by
 obtain ⟨c',k1,k2,k3⟩:=L1 (id:=h.length) (T:=T) (DU wf 1) (by simp) (by rw[eP (Nat.le_refl _)]; simp[ai.at])
 have e:(h++List.replicate 1 aP.free).set h.length (.row T [])=h ++ [.row T []]:=by simp
 rw[e]at k1 k2 k3
 exact ⟨c',k1,(nA 1).trans k2,k3⟩

theorem Ri (wf:WF w h c) (T:Ty) (rw:Bool):∃c',WF w (h ++ [vB T rw]) c'∧Ext w h c w (h ++ [vB T rw]) c'∧cd w (h ++ [vB T rw]) c' (qZ T rw h.length) (.slice none 0 0):=by
 unfold vB qZ
 cases rw with
 | true=>exact Ua wf T
 | false =>
  simp only[cond_false]
  obtain ⟨c',k1,k2,k3⟩:=Hn (id:=h.length) (T:=T) (DU wf 1) (by simp) (by rw[eP (Nat.le_refl _)]; simp[ai.at])
  have e:(h++List.replicate 1 aP.free).set h.length .tok=h ++ [.tok]:=by simp
  rw[e]at k1 k2 k3
  exact ⟨c',k1,(nA 1).trans k2,k3⟩

theorem BE:∀(l:List (Nat×Ty)) (st:St) (c:eT) (a:Act),GH w c st a→∃c',GH w c' (DM l st) a∧Ext w st.hp c w (DM l st).hp c'
 | [],st,c,a,dV=>⟨c,dV, .refl _ _ _⟩
 | (d,T)::l,st,c,a,dV=>by
  simp only[DM]
  split
  ·rename_i he
   obtain ⟨c',k1,k2,k3⟩:=Ua dV.wf T
   obtain ⟨c2,s2,x2⟩:=BE l ⟨st.fr.set d (.row st.hp.length 0),st.hp ++ [.row T []]⟩ c' a (Z3 dV he k1 k2 k3)
   exact ⟨c2,s2,k2.trans x2⟩
  ·exact BE l st c a dV

theorem I8 {i:Nat} {cs ds:List V} (he:h.at i = .cells cs) (hl:ds.length=cs.length):Ext w h c w (h.set i (.cells ds)) c where
 os:=rfl
 tape:=rfl
 output:=rfl
 size:=Nat.le_refl _
 used:=fun j hj=>⟨by simpa using hj.1,by rw[gm]; split; simp; exact hj.2⟩
 same:=fun j hj hd=>by
  rw[gm]at hd ⊢
  split
  ·rename_i hc
   obtain ⟨rfl,_⟩:=hc
   rw[he]
   exact ⟨hl.symm,rfl,rfl⟩
  ·rename_i hc
   rw[if_neg hc]at hd
   exact ⟨Ac (E7 hj.2 hd) (fun _ _ _ => .inr trivial),rfl,rfl⟩
 cell:=fun _ _ _ _=>rfl
 block:=fun _ _ _=>rfl
 tp:=fun b x _ ho=>by
  obtain ⟨j,f,g1,g2,g3⟩:=ho
  rw[gm]at g2
  split at g2
  ·rename_i hc
   obtain ⟨rfl,_⟩:=hc
   exact ⟨i,f,g1,by rw[he]; exact g2,g3⟩
  ·exact ⟨j,f,g1,g2,g3⟩
 ext:=rfl
 arr:=fun b arr e fz hb=>⟨arr,fz,hb,rfl⟩

theorem Xl (wf:WF w h c) {i:Nat} {cs ds:List V} (he:h.at i = .cells cs) (hl:ds.length=cs.length) (Bw:iN w (h.set i (.cells ds)) c i (.cells ds)):WF w (h.set i (.cells ds)) c where
 lay:=wf.nz (I8 he hl)
 uU:=fun b x ho he'=>by
  obtain ⟨j,f,g1,g2,g3⟩:=ho
  refine wf.uU b x ?_ he'
  rw[gm]at g2
  split at g2
  ·rename_i hc
   obtain ⟨rfl,_⟩:=hc
   exact ⟨i,f,g1,by rw[he]; exact g2,g3⟩
  ·exact ⟨j,f,g1,g2,g3⟩
 la:=wf.la
 obj:=fun j hj=>by
  rw[gm]
  split
  ·rename_i hc
   obtain ⟨rfl,_⟩:=hc
   exact Bw
  ·have ho:=wf.obj j (by simpa using hj)
   by_cases hv:(h.at j).live
   ·exact ho.pP (I8 he hl) (fun _ _=>rfl) rfl rfl
   ·have h0:h.at j = .free∨h.at j = .dead:=by revert hv; cases h.at j <;> simp[aP.live]
    rcases h0 with h0|h0 <;> rw[h0] <;> trivial
 inj:=fun j k b hj hk h1 h2=>by
  have key:∀j,(ai.at (h.set i (.cells ds)) j).live→(h.at j).live:=fun j hj=>by
   rw[gm]at hj
   split at hj
   ·rename_i hc
    obtain ⟨rfl,_⟩:=hc
    rw[he]; trivial
   ·exact hj
  exact wf.inj j k b (key j hj) (key k hk) h1 h2

theorem Mn {i:Nat} {o':aP} (hf:∀f,(h.at i).from_ f=some 0) (U6:∀f,o'.from_ f=some 0) (qT:(h.at i).dV o') (gX:o' ≠ .free):Ext w h c w (h.set i o') c where
 os:=rfl
 tape:=rfl
 output:=rfl
 size:=Nat.le_refl _
 used:=fun j hj=>⟨by simpa using hj.1,by rw[gm]; split; exact gX; exact hj.2⟩
 same:=fun j hj hd=>by
  rw[gm]at hd ⊢
  split
  ·rename_i hc
   obtain ⟨rfl,_⟩:=hc
   exact ⟨qT,rfl,rfl⟩
  ·rename_i hc
   rw[if_neg hc]at hd
   exact ⟨Ac (E7 hj.2 hd) (fun _ _ _ => .inr trivial),rfl,rfl⟩
 cell:=fun _ _ _ _=>rfl
 block:=fun _ _ _=>rfl
 tp:=fun b x _ ho=>by
  obtain ⟨j,f,g1,g2,g3⟩:=ho
  rw[gm]at g2
  split at g2
  ·rename_i hc
   obtain ⟨rfl,_⟩:=hc
   rw[U6]at g2
   cases g2
   exact ⟨i,0,g1,hf _,g3⟩
  ·exact ⟨j,f,g1,g2,g3⟩
 ext:=rfl
 arr:=fun b arr e fz hb=>⟨arr,fz,hb,rfl⟩

theorem Z4 (wf:WF w h c) {i:Nat} {o':aP} (hf:∀f,(h.at i).from_ f=some 0) (U6:∀f,o'.from_ f=some 0) (qT:(h.at i).dV o') (gX:o' ≠ .free) (Bw:iN w (h.set i o') c i o'):WF w (h.set i o') c where
 lay:=wf.nz (Mn hf U6 qT gX)
 uU:=fun b x ho he'=>by
  obtain ⟨j,f,g1,g2,g3⟩:=ho
  refine wf.uU b x ?_ he'
  rw[gm]at g2
  split at g2
  ·rename_i hc
   obtain ⟨rfl,_⟩:=hc
   rw[U6]at g2
   cases g2
   exact ⟨i,0,g1,hf _,g3⟩
  ·exact ⟨j,f,g1,g2,g3⟩
 la:=wf.la
 obj:=fun j hj=>by
  rw[gm]
  split
  ·rename_i hc
   obtain ⟨rfl,_⟩:=hc
   exact Bw
  ·have ho:=wf.obj j (by simpa using hj)
   by_cases hv:(h.at j).live
   ·exact ho.pP (Mn hf U6 qT gX) (fun _ _=>rfl) rfl rfl
   ·have h0:h.at j = .free∨h.at j = .dead:=by revert hv; cases h.at j <;> simp[aP.live]
    rcases h0 with h0|h0 <;> rw[h0] <;> trivial
 inj:=fun j k b hj hk h1 h2=>by
  have key:∀j,(ai.at (h.set i o') j).live→(h.at j).live:=fun j hj=>by
   rw[gm]at hj
   split at hj
   ·rename_i hc
    obtain ⟨rfl,_⟩:=hc
    exact lR (hf 0)
   ·exact hj
  exact wf.inj j k b (key j hj) (key k hk) h1 h2

theorem lS:∀(l:List (Nat×Nat×Ty×Bool)) (st:St) (c:eT) (a:Act),GH w c st a→∃c',GH w c' (vK l st) a∧Ext w st.hp c w (vK l st).hp c'
 | [],st,c,a,dV=>⟨c,dV, .refl _ _ _⟩
 | (i,o,T,rw)::l,st,c,a,dV=>by
  simp only[vK]
  split
  ·rename_i cs tW
   split
   ·rename_i ho
    obtain ⟨c',k1,k2,k3⟩:=Ri dV.wf T rw
    have hi:=ai.dR tW (by simp)
    have S0:ai.at (st.hp ++ [vB T rw]) i = .cells cs:=by rw[fp hi]; exact tW
    have e:st.hp.set i (.cells (cs.set o (qZ T rw st.hp.length))) ++ [vB T rw]=(st.hp ++ [vB T rw]).set i (.cells (cs.set o (qZ T rw st.hp.length))):=by
     rw[List.set_append_left _ _ hi]
    rw[e]
    have hl:(cs.set o (qZ T rw st.hp.length)).length=cs.length:=by simp
    have x1:=I8 (w:=w) (c:=c') S0 hl
    have Bw:=k1.obj i (by simp; omega)
    rw[S0]at Bw
    obtain ⟨b,arr,el,g1,g2,g3⟩:=Bw
    have w1:=Xl k1 S0 hl (by
     refine ⟨b,arr,el,g1,g2,?_⟩
     have g3':=g3.mono x1
     refine ⟨by simpa using g3'.1,fun j v d hv hd => ?_⟩
     rw[List.getElem?_set]at hv
     by_cases hj:o=j
     ·subst hj
      rw[if_pos rfl]at hv
      split at hv
      ·cases hv
       have rd:=g3.getD o undef
       rw[ho,List.getD,hd]at rd
       cases rd
       exact k3.mono x1
      ·cases hv
     ·rw[if_neg hj]at hv
      exact g3'.2 j v d hv hd)
    have x2:=k2.trans x1
    obtain ⟨c2,s2,x3⟩:=lS l ⟨st.fr,(st.hp ++ [vB T rw]).set i (.cells (cs.set o (qZ T rw st.hp.length)))⟩ c' a ⟨w1,dV.fr.mono x2⟩
    exact ⟨c2,s2,x2.trans x3⟩
   ·exact lS l st c a dV
  ·rename_i v tW
   split
   ·obtain ⟨c',k1,k2,k3⟩:=Ri dV.wf T rw
    have hi:=ai.dR tW (by simp)
    have S0:ai.at (st.hp ++ [vB T rw]) i = .qV .aI:=by rw[fp hi]; exact tW
    have e:st.hp.set i (.qV (qZ T rw st.hp.length)) ++ [vB T rw]=(st.hp ++ [vB T rw]).set i (.qV (qZ T rw st.hp.length)):=by
     rw[List.set_append_left _ _ hi]
    rw[e]
    have hf:∀f,(ai.at (st.hp ++ [vB T rw]) i).from_ f=some 0:=fun f=>by rw[S0]; rfl
    have qT:(ai.at (st.hp ++ [vB T rw]) i).dV (.qV (qZ T rw st.hp.length)):=by rw[S0]; trivial
    have x1:=Mn (w:=w) (c:=c') hf (o' := .qV (qZ T rw st.hp.length)) (fun _=>rfl) qT (by simp)
    have Bw:=k1.obj i (by simp; omega)
    rw[S0]at Bw
    obtain ⟨b,p,d,g1,g2,g3,g4⟩:=Bw
    have w1:=Z4 k1 hf (o' := .qV (qZ T rw st.hp.length)) (fun _=>rfl) qT (by simp) (by
     cases g4
     exact ⟨b,p,_,g1,g2,g3,k3.mono x1⟩)
    have x2:=k2.trans x1
    obtain ⟨c2,s2,x3⟩:=lS l ⟨st.fr,(st.hp ++ [vB T rw]).set i (.qV (qZ T rw st.hp.length))⟩ c' a ⟨w1,dV.fr.mono x2⟩
    exact ⟨c2,s2,x2.trans x3⟩
   ·exact lS l st c a dV
  ·exact lS l st c a dV

theorem S1 {w0:World} {h0:ai} {c0:eT} {st:St} {a:Act} (dV:GH w c st a) (x:Ext w0 h0 c0 w st.hp c) (hm:h0.length≤200) (hint:Hint) :
  ∃c',GH w c' (norm h0.length hint st) a∧Ext w0 h0 c0 w (norm h0.length hint st).hp c':=by
 obtain ⟨c,dV,x⟩:∃c',GH w c' (TN h0.length hint ⟨Bq hint.live hint.drop st.fr,st.hp⟩) a∧Ext w0 h0 c0 w (TN h0.length hint ⟨Bq hint.live hint.drop st.fr,st.hp⟩).hp c':=by
  unfold TN
  split
  ·exact ⟨c,⟨dV.wf,GK dV.fr _ _⟩,x⟩
  ·exact Mm (st:=⟨Bq hint.live hint.drop st.fr,st.hp⟩) ⟨dV.wf,GK dV.fr _ _⟩ x hm
 obtain ⟨c1,s1,x1⟩:=vP hint.own _ c a dV
 obtain ⟨c2,s2,x2⟩:=BE hint.rows _ c1 a s1
 obtain ⟨c3,s3,x3⟩:=lS hint.cells _ c2 a s2
 exact Mm s3 (((x.trans x1).trans x2).trans x3) hm

theorem S2 {w0:World} {h0:ai} {c0:eT} {st:St} {a:Act} (dV:GH w c st a) (x:Ext w0 h0 c0 w st.hp c) (hm:h0.length≤200) (hint:Hint) :
  ∃c',GH w c' (trim h0.length hint st) a∧Ext w0 h0 c0 w (trim h0.length hint st).hp c' :=
 Mm (st:=⟨Bq hint.out [] st.fr,st.hp⟩) ⟨dV.wf,GK dV.fr _ _⟩ x hm


theorem Mo:∀(ts:List Nat) (vs:List V) (ds:List Value),ts.length=ds.length→bl w h c vs ds→bl w h c (Sn tt ts vs) ds
 | [],vs,ds,hl,r=>by
  have:ds = []:=List.eq_nil_of_length_eq_zero hl.symm
  subst this
  exact .nil
 | t::ts, [],ds,hl,r=>by
  have:ds = []:=List.eq_nil_of_length_eq_zero (by simpa using r.1.symm)
  subst this
  simp at hl
 | t::ts,v::vs, [],hl,r=>by simp at hl
 | t::ts,v::vs,d::ds,hl,r => .cons (OI r.head) (Mo ts vs ds (by simpa using hl) r.tail)
end

section
variable {P:Program} {tt:ca} {R:Type}

def oH (fr:List V) (log:List (Nat×V)):List V:=log.foldr (fun x f=>f.set x.1 x.2) fr
theorem tZ (fr:List V):∀log:List (Nat×V),(oH fr log).length=fr.length
 | []=>rfl
 | x::log=>by simp[oH]; exact tZ fr log

theorem beqF (a b:Nat):Nat.beq a b=decide (a=b):=by
 cases hb:Nat.beq a b with
 | true=>simp[Nat.eq_of_beq_eq_true hb]
 | false=>simp[Nat.ne_of_beq_eq_false hb]

theorem look_eq (fr:List V) (t:Nat) (d:V) (hd:fr.getD t .undef=d):∀log:List (Nat×V),(∀x∈log,x.1<fr.length)→FJ log t d=(oH fr log).getD t .undef
 | [],_=>hd.symm
 | x::log,h=>by
  have ih:=look_eq fr t d hd log fun y hy=>h y (by simp[hy])
  have hx:=h x (by simp)
  have hl:=tZ fr log
  have e:oH fr (x::log)=(oH fr log).set x.1 x.2:=rfl
  have e2:FJ (x::log) t d=cond (Nat.beq x.1 t) x.2 (FJ log t d):=rfl
  rw[e,e2,beqF,ih]
  by_cases Q1:x.1=t
  ·subst Q1
   simp[List.getD,List.getElem?_set_self,hl,hx]
  ·simp[Q1,List.getD,List.getElem?_set_ne Q1]

theorem Rj {β:Type} (t:Nat) (d:V) (k:V→β):∀log:List (Nat×V),LF log t d k=k (FJ log t d)
 | []=>rfl
 | x::log=>by
  have ih:=Rj t d k log
  have e1:LF (x::log) t d k=cond (Nat.beq x.1 t) (k x.2) (LF log t d k):=rfl
  have e2:FJ (x::log) t d=cond (Nat.beq x.1 t) x.2 (FJ log t d):=rfl
  rw[e1,e2,ih]
  cases Nat.beq x.1 t <;> rfl

def ua (log:List (Nat×V)):Nat→List V→List V
 | _, [] => []
 | i,v::r=>FJ log i v::ua log (i+1) r
theorem J4 {β:Type} (log:List (Nat×V)):∀(fr:List V) (i:Nat) (k:List V→β),
  List.rec (motive:=fun _=>Nat→(List V→β)→β) (fun _ k=>k []) (fun v _ ih i k=>LF log i v fun v'=>ih (i+1) fun r=>k (v'::r)) fr i k=k (ua log i fr)
 | [],_,_=>rfl
 | v::fr,i,k=>by
  show LF log i v (fun v'=>List.rec (motive:=fun _=>Nat→(List V→β)→β) (fun _ k=>k []) (fun v _ ih i k=>LF log i v fun v'=>ih (i+1) fun r=>k (v'::r)) fr (i+1) fun r=>k (v'::r))=_
  rw[Rj,J4 log fr (i+1)]
  rfl
theorem FM (log:List (Nat×V)):∀(fr:List V) (i j:Nat),(ua log i fr)[j]? = (fr[j]?).map fun v=>FJ log (i+j) v
 | [],_,_=>by simp[ua]
 | v::fr,i,0=>by simp[ua]
 | v::fr,i,j+1=>by
  simp only[ua,List.getElem?_cons_succ]
  rw[FM log fr (i+1) j]
  congr 1
  funext v
  congr 1
  omega
theorem Vw {β:Type} (fr:List V) (log:List (Nat×V)) (hl:∀x∈log,x.1<fr.length) (k:List V→β):Sk log fr k=k (oH fr log):=by
 have h1:Sk log fr k=k (ua log 0 fr):=J4 log fr 0 k
 rw[h1]
 congr 1
 apply List.ext_getElem?
 intro j
 rw[FM,Nat.zero_add]
 cases hj:fr[j]? with
 | none =>
  have:(oH fr log)[j]? = none:=by
   rw[List.getElem?_eq_none_iff,tZ]
   exact List.getElem?_eq_none_iff.1 hj
  rw[this]; rfl
 | some v =>
  have dH:j<(oH fr log).length:=by rw[tZ]; exact (List.getElem?_eq_some_iff.1 hj).1
  have h2:=look_eq fr j v (by simp[List.getD,hj]) log hl
  rw[Option.map_some,h2]
  simp[List.getD,List.getElem?_eq_getElem dH]

theorem evF_eq (fr:List V) (log:List (Nat×V)) (hl:∀x∈log,x.1<fr.length):evF fr log=ev (oH fr log):=by
 funext x
 cases x with
 | tmp t=>exact look_eq fr t _ rfl log hl
 | _=>rfl

theorem Ub (fr:List V) (log:List (Nat×V)) (dst:Option Nat) (v:V):oH fr (Oo fr.length log dst v)=gM (oH fr log) dst v:=by
 cases dst with
 | none=>rfl
 | some d =>
  unfold Oo gM
  simp only
  cases h:Nat.blt d fr.length with
  | true=>rfl
  | false =>
   have:¬d<fr.length:=by
    intro h2
    have h3:Nat.blt d fr.length=true:=by simpa using h2
    rw[h3]at h
    cases h
   simp only[cond_false]
   rw[List.set_eq_of_length_le (by rw[tZ]; omega)]
theorem Uc {fr:List V} {log:List (Nat×V)} (hl:∀x∈log,x.1<fr.length) (dst:Option Nat) (v:V):∀x∈Oo fr.length log dst v,x.1<fr.length:=by
 cases dst with
 | none=>exact hl
 | some d =>
  unfold Oo
  simp only
  cases h:Nat.blt d fr.length with
  | true =>
   intro x hx
   rcases List.mem_cons.1 hx with rfl|hx
   ·simpa using h
   ·exact hl x hx
  | false=>exact hl

theorem Xm {E:Env R} {drawn:Option Nat} {id:Nat} {o:Oper} {st:St} {k:St→Option R}:uT tt E drawn id o st k=WB tt E drawn id o (ev st.fr) st.hp fun v h=>k ⟨gM st.fr o.dst v,h⟩:=by
 unfold uT WB
 cases da tt o.op <;> rfl

theorem Vx {all:List Oper} {o:Oper} {fr:List V} {log:List (Nat×V)} {hp:ai} (hl:∀x∈log,x.1<fr.length) {run skip:St→Option R} {runF skipF:List (Nat×V)→Option R}
  (hr:∀log,(∀x∈log,x.1<fr.length)→runF log=run ⟨oH fr log,hp⟩) (hs:∀log,(∀x∈log,x.1<fr.length)→skipF log=skip ⟨oH fr log,hp⟩) :
  Sl all o fr log runF skipF=pR all o ⟨oH fr log,hp⟩ run skip:=by
 unfold Sl pR
 cases o.guard with
 | none=>exact hr log hl
 | some jw =>
  obtain ⟨j,want⟩:=jw
  simp only
  cases (all[j]?).bind (·.dst)with
  | none=>rfl
  | some d =>
   simp only
   rw[look_eq fr d _ rfl log hl]
   cases hb:(oH fr log).getD d .undef with
   | bool b =>
    have hd:d<fr.length:=by
     rcases Nat.lt_or_ge d fr.length with h|h
     ·exact h
     ·rw[←tZ fr log]at h
      simp[List.getD,List.getElem?_eq_none h]at hb
    have h2:∀v:V,∀x∈(d,v)::log,x.1<fr.length:=fun v x hx=>by
     rcases List.mem_cons.1 hx with rfl|hx
     ·exact hd
     ·exact hl x hx
    simp only
    rw[hr _ (h2 _),hs _ (h2 _),hr _ (h2 _),hs _ (h2 _)]
    rfl
   | tuple vs =>
    cases vs with
    | nil=>exact hs log hl
    | cons _ _=>rfl
   | _=>rfl

theorem PS {E:Env R} {drawn:Option Nat} {all:List Oper} {fr:List V}:∀(l:List Oper) (id:Nat) (log:List (Nat×V)) (hp:ai) (k:St→Option R),(∀x∈log,x.1<fr.length) →
  Sm tt E drawn all fr.length fr l id log hp k=LC tt E drawn all l id ⟨oH fr log,hp⟩ k
 | [],_,log,hp,k,hl=>by
  simp only[Sm,LC]
  rw[Vw fr log hl,zU]
 | o::l,id,log,hp,k,hl=>by
  simp only[Sm,LC,Bn]
  refine Vx hl (fun log hl => ?_) fun log hl => ?_
  ·rw[Xm,evF_eq fr log hl]
   congr 1
   funext v h
   rw[zU,PS l _ _ _ _ (Uc hl o.dst v),Ub]
  ·rw[PS l _ _ _ _ (Uc hl o.dst _),Ub]

theorem regionF_eq {E:Env R} {ops:List Oper} {draw:Bool} {st:St} {k:St→Option R}:regionF tt E ops draw st k=E4 tt E ops draw st k:=by
 unfold regionF E4
 simp only
 have h:=fun (dr:Option Nat) (hp:ai)=>PS (tt:=tt) (E:=E) (drawn:=dr) (all:=ops) (fr:=st.fr) ops st.hp.length [] hp k (by simp)
 rw[h,h]
 rfl
end

section
variable {P:Program} {tt:ca} {w w':World} {h h':ai} {c c':eT} {R:Type}

def Ex.out:Ex→Exit
 | .normal => .normal
 | .exit id => .exit id
 | .goto l => .goto l
 | .ret => .ret

theorem Vy {a b:Option R} {r:R} (h:IU a b=some r):a=some r∧b=some r:=by
 unfold IU at h
 split at h
 ·rename_i e; exact ⟨h,e▸h⟩
 ·cases h

theorem Vz {b0:Code} {Q:Exit→Act→World→Prop} (I:Nat→Act→World→Prop) (h0:∀a w, ¬I 0 a w) (round:∀n a w,I (n+1) a w→b0.wp P (Exit.then (I n) Q) a w) {n:Nat} {a:Act} {w:World} (hI:I n a w) :
  (Code.loop b0).wp P Q a w:=by
 intro b k cs
 have key:∀n a w,I n a w→∃e a' w',Q e a' w'∧Arrives P (lone (b.at a (.code b0 :: .inLoop b0::k)) cs w) b k cs e a' w':=by
  intro n
  induction n with
  | zero=>exact fun a w h=>(h0 a w h).elim
  | succ n ih =>
   intro a w hI
   obtain ⟨e,a1,w1,hq,wv⟩:=round n a w hI b (.inLoop b0::k) cs
   cases e with
   | normal =>
    obtain ⟨e2,a2,w2,WH,harr2⟩:=ih a1 w1 hq
    exact ⟨e2,a2,w2,WH, .of_steps (Steps.trans wv (.one step_inLoop)) harr2⟩
   | exit id=>exact ⟨_,a1,w1,hq, .pass (x := .inLoop b0) rfl (fun _ _ => .inl (by simp)) wv⟩
   | goto l=>exact ⟨_,a1,w1,hq, .pass (x := .inLoop b0) rfl (fun _ _ => .inl (by simp)) wv⟩
   | ret=>exact ⟨_,a1,w1,hq, .pass (x := .inLoop b0) rfl (fun _ _ => .inl (by simp)) wv⟩
   | panic ch=>exact ⟨_,a1,w1,hq, .pass (x := .inLoop b0) rfl (fun _ _ => .inl (by simp)) wv⟩
   | outgrown=>exact ⟨_,a1,w1,hq, .pass (x := .inLoop b0) rfl (fun _ _ => .inl (by simp)) wv⟩
 obtain ⟨e,a',w',hq,wv⟩:=key n a w hI
 exact ⟨e,a',w',hq, .of_steps (.one step_loop) wv⟩

def dY (tt:ca) (E:Env R) (L:Nat→Option (Hint×bO R)) (m:Nat) (a:Code):Prop :=
 ∀hint ls,L (keyOf a)=some (hint,ls)→∀st (K:Ex→St→Option R) r,ls st K=some r→∃n,xH (fm tt E L m a) (norm m hint) n st (fun e st=>K e (trim m hint st))=some r

def ah:Code→List Code
 | .seq a b=>ah a++ah b
 | .cond _ a b=>ah a++ah b
 | .block _ a=>ah a
 | .loop a=>a::ah a
 | _ => []

theorem Rk (body:bO R):∀n st K,TO body n st K=xH body id n st K
 | 0,_,_=>rfl
 | n+1,st,K=>by
  simp only[TO,xH]
  congr 1
  funext e oc
  cases e <;> first|rfl|exact Rk body n oc K

section
variable {w0:World} {h0:ai} {c0:eT} {D:List Deferred}

structure At (w0:World) (h0:ai) (c0:eT) (D:List Deferred) (w:World) (st:St) (a:Act) (c:eT):Prop where
 dV:GH w c st a
 ext:Ext w0 h0 c0 w st.hp c
 defers:a.defers=D

def Ends (w0:World) (h0:ai) (c0:eT) (D:List Deferred) (K:Ex→St→Option R) (r:R) (Q:Exit→Act→World→Prop):Prop :=
 ∀e st a w c,At w0 h0 c0 D w st a c→K e st=some r→Q e.out a w

theorem gY (T:tq P tt) (hm:P.follows .mixedOrders=true) {E:Env R} (hE:R3 P E) {L:Nat→Option (Hint×bO R)} (hlen:h0.length≤200) {r:R}:∀(code:Code),(∀a∈ah code,dY tt E L h0.length a) →
  ∀(Q:Exit→Act→World→Prop) (K:Ex→St→Option R) (st:St) (a:Act) (w:World) (c:eT),At w0 h0 c0 D w st a c→fm tt E L h0.length code st K=some r→Ends w0 h0 c0 D K r Q→code.wp P Q a w
 | .skip,_,Q,K,st,a,w,c,at_,hk,he=>wp_skip (he .normal st a w c at_ hk)
 | .region id ops draw,_,Q,K,st,a,w,c,at_,hk,he=>by
  simp only[fm,regionF_eq]at hk
  have go:W8 w c st a (fun oc=>K .normal oc) r (Q .normal):=fun a' w' oc c' s x d k=>he .normal oc a' w' c' ⟨s,at_.ext.trans x,d.trans at_.defers⟩ k
  cases draw with
  | true=>exact SZ T hm hE hk at_.dV go
  | false=>exact PJ T hE hk at_.dV go
 | .seq x y,hl,Q,K,st,a,w,c,at_,hk,he=>by
  simp only[fm]at hk
  refine wp_seq (gY T hm hE hlen x (fun b hb=>hl b (by simp[ah,hb])) _ _ st a w c at_ hk fun e oc a' w' c' at' mV => ?_)
  cases e with
  | normal=>exact gY T hm hE hlen y (fun b hb=>hl b (by simp[ah,hb])) Q K oc a' w' c' at' mV he
  | exit i=>exact he (.exit i) oc a' w' c' at' mV
  | goto l=>exact he (.goto l) oc a' w' c' at' mV
  | ret=>exact he .ret oc a' w' c' at' mV
 | .cond cnd x y,hl,Q,K,st,a,w,c,at_,hk,he=>by
  simp only[fm]at hk
  split at hk <;> try (first|cases hk)
  ·rename_i t ht
   have rc:=SQ at_.dV.fr cnd
   rw[ht]at rc
   generalize hv:a.eval cnd=v at rc
   cases rc
   refine wp_cond hv ?_
   cases t with
   | true=>exact gY T hm hE hlen x (fun b hb=>hl b (by simp[ah,hb])) Q K st a w c at_ hk he
   | false=>exact gY T hm hE hlen y (fun b hb=>hl b (by simp[ah,hb])) Q K st a w c at_ hk he
  ·rename_i ht
   have rc:=SQ at_.dV.fr cnd
   rw[ht]at rc
   generalize hv:a.eval cnd=v at rc
   cases rc with
   | Fh t =>
    refine wp_cond hv ?_
    obtain ⟨h1,h2⟩:=Vy hk
    cases t with
    | true=>exact gY T hm hE hlen x (fun b hb=>hl b (by simp[ah,hb])) Q K st a w c at_ h1 he
    | false=>exact gY T hm hE hlen y (fun b hb=>hl b (by simp[ah,hb])) Q K st a w c at_ h2 he
 | .block id x,hl,Q,K,st,a,w,c,at_,hk,he=>by
  simp only[fm]at hk
  refine wp_block (gY T hm hE hlen x (fun b hb=>hl b (by simp[ah,hb])) _ _ st a w c at_ hk fun e oc a' w' c' at' mV => ?_)
  cases e with
  | normal=>exact he .normal oc a' w' c' at' mV
  | exit i =>
   simp only[Ex.out,Exit.inBlock]
   simp only at mV
   split
   ·rename_i hi
    rw[if_pos hi]at mV
    exact he .normal oc a' w' c' at' mV
   ·rename_i hi
    rw[if_neg hi]at mV
    exact he (.exit i) oc a' w' c' at' mV
  | goto l=>exact he (.goto l) oc a' w' c' at' mV
  | ret=>exact he .ret oc a' w' c' at' mV
 | .loop x,hl,Q,K,st,a,w,c,at_,hk,he=>by
  have hx:∀b∈ah x,dY tt E L h0.length b:=fun b hb=>hl b (by simp[ah,hb])
  have main:∀(f g:St→St),(∀w st a c,At w0 h0 c0 D w st a c→∃c',At w0 h0 c0 D w (f st) a c')→(∀w st a c,At w0 h0 c0 D w st a c→∃c',At w0 h0 c0 D w (g st) a c') →
    ∀n st a w c,At w0 h0 c0 D w st a c→xH (fm tt E L h0.length x) f n st (fun e st=>K e (g st))=some r→(Code.loop x).wp P Q a w:=by
   intro f g hf hg n st a w c at_ hk
   refine Vz (fun n a w=>∃st c,At w0 h0 c0 D w st a c∧xH (fm tt E L h0.length x) f n st (fun e st=>K e (g st))=some r) (fun a w => ?_) (fun n a w => ?_) ⟨st,c,at_,hk⟩
   ·rintro ⟨st,c,_,hk⟩
    cases hk
   ·rintro ⟨st,c,at_,hk⟩
    simp only[xH]at hk
    refine gY T hm hE hlen x hx _ _ st a w c at_ hk fun e oc a' w' c' at' mV => ?_
    cases e with
    | normal =>
     obtain ⟨c2,at2⟩:=hf w' oc a' c' at'
     exact ⟨f oc,c2,at2,mV⟩
    | exit i=>obtain ⟨c2,at2⟩:=hg w' oc a' c' at'; exact he (.exit i) _ a' w' c2 at2 mV
    | goto l=>obtain ⟨c2,at2⟩:=hg w' oc a' c' at'; exact he (.goto l) _ a' w' c2 at2 mV
    | ret=>obtain ⟨c2,at2⟩:=hg w' oc a' c' at'; exact he .ret _ a' w' c2 at2 mV
  simp only[fm]at hk
  split at hk
  ·rename_i hint ls hL
   have hnorm:∀w st a c,At w0 h0 c0 D w st a c→∃c',At w0 h0 c0 D w (norm h0.length hint st) a c':=fun w st a c at_=>by
    obtain ⟨c',s',x'⟩:=S1 at_.dV at_.ext hlen hint
    exact ⟨c',s',x',at_.defers⟩
   have htrim:∀w st a c,At w0 h0 c0 D w st a c→∃c',At w0 h0 c0 D w (trim h0.length hint st) a c':=fun w st a c at_=>by
    obtain ⟨c',s',x'⟩:=S2 at_.dV at_.ext hlen hint
    exact ⟨c',s',x',at_.defers⟩
   obtain ⟨n,hn⟩:=hl x (by simp[ah]) hint ls hL _ _ _ hk
   obtain ⟨c',at'⟩:=hnorm w st a c at_
   exact main _ _ hnorm htrim n _ a w c' at' hn
  ·rw[Rk]at hk
   exact main id id (fun w st a c h=>⟨c,h⟩) (fun w st a c h=>⟨c,h⟩) 70 st a w c at_ hk
 | .exit id,_,Q,K,st,a,w,c,at_,hk,he=>wp_exit (he (.exit id) st a w c at_ hk)
 | .ret,_,Q,K,st,a,w,c,at_,hk,he=>wp_ret (he .ret st a w c at_ hk)
 | .label _,_,_,_,_,_,_,_,_,hk,_=>by simp[fm]at hk
 | .goto _,_,_,_,_,_,_,_,_,hk,_=>by simp[fm]at hk
 | .scope _,_,_,_,_,_,_,_,_,hk,_=>by simp[fm]at hk
 | .refuse _,_,_,_,_,_,_,_,_,hk,_=>by simp[fm]at hk
end

theorem GL (T:tq P tt) {st:St} {a:Act} (dV:GH w c st a):∀(rs:List ResultVar) {k:List V→Option R} {r:R},Qy tt st rs k=some r →
  ∃vs ds,k vs=some r∧bl w st.hp c vs ds∧ds.length=rs.length∧(rs.mapM (m:=Sem) fun | .tmp t=>pure (a.tmps.getD t undef) | .cell b t=>do loadVar t (←asAddr (a.tmps.getD b undef))).run P w = .ok ds w
 | [],k,r,hk=>⟨[], [],hk, .nil,rfl,by simp⟩
 | .tmp t::rs,k,r,hk=>by
  simp only[Qy]at hk
  obtain ⟨vs,ds,h1,h2,h3,h4⟩:=GL T dV rs hk
  refine ⟨_,a.tmps.getD t undef::ds,h1, .cons ?_ h2,by simp[h3],?_⟩
  ·have:=dV.fr.getD t undef
   simpa [List.getD,Array.getD_eq_getD_getElem?]using this
  ·simp only[List.mapM_cons,Sem.run_bind,Sem.run_pure,Result.andThen_ok,h4]
 | .cell b t::rs,k,r,hk=>by
  simp only[Qy]at hk
  split at hk <;> try (first|cases hk)
  rename_i i o hp
  split at hk <;> try (first|cases hk)
  rename_i cs tW
  have hl:=LS (P:=P) T dV.wf (t:=t) (a := .ptr i o) (a':=a.tmps.getD b undef) (lim:=none) (k:=fun v=>Qy tt st rs fun vs=>k (v::vs)) (r:=r) (by
    have:=dV.fr.getD b undef
    rw[hp]at this
    simpa [List.getD,Array.getD_eq_getD_getElem?]using this) (by simp only[Dc,if_true,tW]; exact hk)
  obtain ⟨v,v',g1,g2,g3⟩:=hl
  obtain ⟨vs,ds,h1,h2,h3,h4⟩:=GL T dV rs g3
  refine ⟨_,v'::ds,h1, .cons g2 h2,by simp[h3],?_⟩
  have hb:(do loadVar t (←asAddr (a.tmps.getD b undef)):Sem Value).run P w = .ok v' w:=by
   have rb:=dV.fr.getD b undef
   rw[hp]at rb
   have e:a.tmps.toList.getD b undef=a.tmps.getD b undef:=by simp[List.getD,Array.getD_eq_getD_getElem?]
   rw[e]at rb
   generalize a.tmps.getD b undef=q at rb g1
   cases rb with
   | ptr hu hv =>
    obtain ⟨b',rfl,_⟩:=hv
    simpa [Instr.loadAt,Instr.sureAddr,asAddr]using g1
  simp only[List.mapM_cons,Sem.run_bind,hb,Sem.run_pure,Result.andThen_ok,h4]

theorem NL {w0:World} {h0:ai} {c0:eT} {ts:List Nat} {pP:Bool} {vs:List V} {ds:List Value} (wf:WF w h c) (r:bl w h c vs ds) (x:Ext w0 h0 c0 w h c) (hm:h0.length≤200) (hts:ts.length=ds.length) {k:V→ai→Option R} {q:R}
  (hk:K9 tt ts h0.length pP vs h k=some q):∃v h' c',WF w h' c'∧Ext w0 h0 c0 w h' c'∧cd w h' c' v (if h:ds.length=1 then ds[0]else .tuple ds.toArray)∧k v h'=some q:=by
 unfold K9 at hk
 have main:∀(ws:List V) (h1:ai),WF w h1 c→bl w h1 c ws ds→Ext w0 h0 c0 w h1 c →
   ∀ord:List Nat,ord.Nodup→(∀i,i<h0.length→ord[i]? = some i∨∃j,h1.length≤j∧ord[i]? = some j) →
   k (match V.tP (tz ord) ws with | [v]=>v|l => .tuple l) (h1.pick ord)=some q →
   ∃v h' c',WF w h' c'∧Ext w0 h0 c0 w h' c'∧cd w h' c' v (if h:ds.length=1 then ds[0]else .tuple ds.toArray)∧k v h'=some q:=by
  intro ws h1 wf1 r1 x1 ord g1 g2 hk
  have rr:=FL (ord:=ord) r1
  refine ⟨_,_,_,Hz wf1 g1,OO x1 g2,?_,hk⟩
  have hlen:=rr.1
  generalize V.tP (tz ord) ws=us at rr hlen
  split
  ·rename_i v
   have h1:ds.length=1:=by simpa using hlen.symm
   rw[dif_pos h1]
   exact rr.2 0 v _ rfl (List.getElem?_eq_getElem _)
  ·rename_i gX
   have h1:¬ds.length=1:=fun e=>by
    rw[e]at hlen
    match us,hlen with
    | [v],_=>exact gX v rfl
   rw[dif_neg h1]
   exact .tuple (by simpa using hlen) fun j v d hv hd=>rr.2 j v d hv (by simpa using hd)
 have hrr:=fun (h1:ai) (ws:List V)=>J3 h1 (m:=h0.length) (n:=256) (by omega) (V.nv ws)
 cases pP with
 | true =>
  simp only[if_true,Bool.true_and]at hk
  cases he:(V.nv vs).isEmpty with
  | true =>
   rw[he]at hk
   obtain ⟨g1,g2⟩:=PR (h:=h) (hrr h vs).1 (hrr h vs).2
   exact main vs h wf r x _ g1 g2 hk
  | false =>
   rw[he]at hk
   exact main vs h wf r x _ (hrr h vs).1 (fun i hi => .inl ((hrr h vs).2 i hi)) hk
 | false =>
  simp only[Bool.false_eq_true,if_false,Bool.false_and,cond_false]at hk
  exact main _ _ (xM _ _ wf) (Mo ts _ ds hts (OH wf r)) (x.trans (vN _ _)) _ (hrr _ _).1 (fun i hi => .inl ((hrr _ _).2 i hi)) hk

theorem S3 (T:tq P tt) (hm:P.follows .mixedOrders=true) {E:Env R} (hE:R3 P E) {L:Nat→Option (Hint×bO R)} {g:Nat} {fn:Func} {code:Code} {pP:Bool} (hf:P.funcs[g]? = some fn) (hb:fn.body=some code)
  (hn:(fn.name == "runtime.NumGoroutine")=false) (hr:fn.results.size=fn.resultTypes.size) (m:Nat) (hl:∀a∈ah code,dY tt E L m a):Spec.W3 P g m (funK tt E L pP fn code):=by
 refine Spec.W3.ZV hf hn (by rw[hb]; rfl) fun vs h k r ZJ hk w c args wf ra => ?_
 subst ZJ
 refine calls_of_wp hf hb ?_
 unfold funK at hk
 split at hk
 ·cases hk
 rename_i h200
 have hlen:h.length≤200:=by omega
 have hfr:bl w h c (vs++List.replicate (fn.ntmps - vs.length) .undef) (args++Array.replicate (fn.ntmps - args.size) undef).toList:=by
  have e:vs.length=args.size:=by simpa using ra.1
  rw[e]
  simpa using ra.append (bl.Kv (fn.ntmps - args.size) undef)
 refine gY T hm hE (w0:=w) (h0:=h) (c0:=c) (D := []) hlen code hl _ _ _ _ w c ⟨⟨wf,hfr⟩, .refl _ _ _,rfl⟩ hk fun e st a w' c' at' mV => ?_
 have fin:Qy tt st fn.results.toList (fun vs=>K9 tt fn.resultTypes.toList h.length pP vs st.hp k)=some r →
   a.defers = []∧∃v,(results fn a.tmps).run P w' = .ok v w'∧∃d,Ending.returned v=Ending.returned d∧∃u h' c',WF w' h' c'∧Ext w h c w' h' c'∧cd w' h' c' u d∧k u h'=some r:=by
  intro hk
  obtain ⟨vs,ds,g1,g2,g3,g4⟩:=GL T at'.dV _ hk
  obtain ⟨u,h',c2,k1,k2,k3,k4⟩:=NL at'.dV.wf g2 at'.ext hlen (by simp[g3,hr]) g1
  refine ⟨at'.defers,_,?_,_,rfl,u,h',c2,k1,k2,k3,k4⟩
  unfold results
  simp only[Sem.run_bind,Array.mapM_eq_mapM_toList,map_eq_pure_bind,Sem.run_pure]
  refine (congrArg (fun z:Result (List Value)=>(z.andThen fun a w'=>Result.ok a.toArray w').andThen fun a w'=>Result.ok (if h:a.size=1 then a[0]else Value.tuple a) w') g4).trans ?_
  simp
 cases e with
 | normal=>exact fin mV
 | ret=>exact fin mV
 | exit i=>cases mV
 | goto l=>cases mV
end

inductive cV where
 | undef|gk|aI|fB|km|dd|iface
 | Lq (t:Nat) (k:IntKind) (n:Int)
 | int (k:IntKind)|bool|str
 | ptr (i o:Nat)
 | sl (T:Ty)|Li (T:Ty) (i:Nat)
 | row (i:Nat)
 | map (i:Nat)
 | fn (f:Nat)
 deriving DecidableEq

def cV.den:cV→Type
 | .int _=>Int
 | .bool=>Bool
 | .str=>aA
 | .sl T=>List T.den
 | .Li T _=>List T.den
 | .row _=>Nat
 | _=>Unit

def cV.enc:(p:cV)→p.den→V
 | .undef,_ => .undef
 | .gk,_ => .gk
 | .aI,_ => .aI
 | .fB,_ => .fB
 | .km,_ => .km
 | .dd,_ => .dd
 | .iface,_ => .iface
 | .Lq t k n,_ => .Lq t k n
 | .int k,(n:Int) => .int k n
 | .bool,(b:Bool) => .bool b
 | .str,(s:aA) => .str s
 | .ptr i o,_ => .ptr i o
 | .sl T,(l:List T.den) => .sl T l .no
 | .Li T i,(l:List T.den) => .sl T l (.own i)
 | .row i,(n:Nat) => .row i n
 | .map i,_ => .map i
 | .fn f,_ => .func f [] []

def Xn (k:IntKind):V→Option Int | .int k' n=>if k'=k then some n else none|_=>none
def Xo:V→Option Bool | .bool b=>some b|_=>none
def Xp:V→Option aA | .str s=>some s|_=>none
def Xq (T:Ty):V→Option (List T.den) | .sl T' l .no=>if h:T'=T then some (h▸l)else none|_=>none
def Xr (T:Ty) (i:Nat):V→Option (List T.den) | .sl T' l (.own j)=>if h:T'=T then (if j=i then some (h▸l)else none)else none|_=>none
def Xs (i:Nat):V→Option Nat | .row j n=>if j=i then some n else none|_=>none
def Xt (i o:Nat):V→Option Unit | .ptr j q=>if j=i∧q=o then some ()else none|_=>none
def Xu (i:Nat):V→Option Unit | .map j=>if j=i then some ()else none|_=>none
def Xv (f:Nat):V→Option Unit | .func g [] []=>if g=f then some ()else none|_=>none
def Xw:V→Option Unit | .undef=>some ()|_=>none
def Xx:V→Option Unit | .gk=>some ()|_=>none
def Xy:V→Option Unit | .aI=>some ()|_=>none
def Xz:V→Option Unit | .fB=>some ()|_=>none
def XA:V→Option Unit | .km=>some ()|_=>none
def XB:V→Option Unit | .dd=>some ()|_=>none
def XC:V→Option Unit | .iface=>some ()|_=>none
def XD (t:Nat) (k:IntKind) (n:Int):V→Option Unit | .Lq t' k' n'=>if t'=t∧k'=k∧n'=n then some ()else none|_=>none

theorem XE {k:IntKind} {v:V} {x:Int} (h:Xn k v=some x):v = .int k x:=by
 unfold Xn at h
 split at h
 ·split at h
  ·rename_i e; subst e; cases h; rfl
  ·cases h
 ·cases h
theorem XF {v:V} {x:Bool} (h:Xo v=some x):v = .bool x:=by unfold Xo at h; split at h <;> first|(cases h; rfl)|cases h
theorem XG {v:V} {x:aA} (h:Xp v=some x):v = .str x:=by unfold Xp at h; split at h <;> first|(cases h; rfl)|cases h
theorem XH {T:Ty} {v:V} {x:List T.den} (h:Xq T v=some x):v = .sl T x .no:=by
 unfold Xq at h
 split at h
 ·split at h
  ·rename_i e; subst e; cases h; rfl
  ·cases h
 ·cases h
theorem XI {T:Ty} {i:Nat} {v:V} {x:List T.den} (h:Xr T i v=some x):v = .sl T x (.own i):=by
 unfold Xr at h
 split at h
 ·split at h
  ·rename_i e
   subst e
   split at h
   ·rename_i e; subst e; cases h; rfl
   ·cases h
  ·cases h
 ·cases h
theorem XJ {i:Nat} {v:V} {x:Nat} (h:Xs i v=some x):v = .row i x:=by
 unfold Xs at h
 split at h
 ·split at h
  ·rename_i e; subst e; cases h; rfl
  ·cases h
 ·cases h
theorem XK {i o:Nat} {v:V} {x:Unit} (h:Xt i o v=some x):v = .ptr i o:=by
 unfold Xt at h
 split at h
 ·split at h
  ·rename_i e; obtain ⟨rfl,rfl⟩:=e; rfl
  ·cases h
 ·cases h
theorem XL {i:Nat} {v:V} {x:Unit} (h:Xu i v=some x):v = .map i:=by
 unfold Xu at h
 split at h
 ·split at h
  ·rename_i e; subst e; rfl
  ·cases h
 ·cases h
theorem XM {f:Nat} {v:V} {x:Unit} (h:Xv f v=some x):v = .func f [] []:=by
 unfold Xv at h
 split at h
 ·split at h
  ·rename_i e; subst e; rfl
  ·cases h
 ·cases h
theorem XO {v:V} {x:Unit} (h:Xw v=some x):v = .undef:=by unfold Xw at h; split at h <;> first|rfl|cases h
theorem XP {v:V} {x:Unit} (h:Xx v=some x):v = .gk:=by unfold Xx at h; split at h <;> first|rfl|cases h
theorem XQ {v:V} {x:Unit} (h:Xy v=some x):v = .aI:=by unfold Xy at h; split at h <;> first|rfl|cases h
theorem XR {v:V} {x:Unit} (h:Xz v=some x):v = .fB:=by unfold Xz at h; split at h <;> first|rfl|cases h
theorem XS {v:V} {x:Unit} (h:XA v=some x):v = .km:=by unfold XA at h; split at h <;> first|rfl|cases h
theorem XT {v:V} {x:Unit} (h:XC v=some x):v = .iface:=by unfold XC at h; split at h <;> first|rfl|cases h
theorem XU {t:Nat} {k:IntKind} {n:Int} {v:V} {x:Unit} (h:XD t k n v=some x):v = .Lq t k n:=by
 unfold XD at h
 split at h
 ·split at h
  ·rename_i e; obtain ⟨rfl,rfl,rfl⟩:=e; rfl
  ·cases h
 ·cases h
theorem XV {v:V} {x:Unit} (h:XB v=some x):v = .dd:=by unfold XB at h; split at h <;> first|rfl|cases h

def cV.dec:(p:cV)→V→Option p.den
 | .undef=>Xw
 | .gk=>Xx
 | .aI=>Xy
 | .fB=>Xz
 | .km=>XA
 | .dd=>XB
 | .iface=>XC
 | .Lq t k n=>XD t k n
 | .int k=>Xn k
 | .bool=>Xo
 | .str=>Xp
 | .ptr i o=>Xt i o
 | .sl T=>Xq T
 | .Li T i=>Xr T i
 | .row i=>Xs i
 | .map i=>Xu i
 | .fn f=>Xv f

theorem cV.GM (p:cV) {v:V} {x:p.den} (h:p.dec v=some x):v=p.enc x:=by
 cases p
 ·exact XO h
 ·exact XP h
 ·exact XQ h
 ·exact XR h
 ·exact XS h
 ·exact XV h
 ·exact XT h
 ·exact XU h
 ·exact XE h
 ·exact XF h
 ·exact XG h
 ·exact XK h
 ·exact XH h
 ·exact XI h
 ·exact XJ h
 ·exact XL h
 ·exact XM h

def cV.aQ:List cV→Type
 | []=>Unit
 | p::ps=>p.den×cV.aQ ps
def cV.nB:(ps:List cV)→cV.aQ ps→List V
 | [],_ => []
 | p::ps,(x:p.den×cV.aQ ps)=>p.enc x.1::cV.nB ps x.2
def both {α β:Type}:Option α→Option β→Option (α×β)
 | some x,some y=>some (x,y)
 | _,_=>none
theorem Lj {α β:Type} {a:Option α} {b:Option β} {z:α×β} (h:both a b=some z):a=some z.1∧b=some z.2:=by
 cases a <;> cases b <;> cases h
 exact ⟨rfl,rfl⟩
def cV.BF:(ps:List cV)→List V→Option (cV.aQ ps)
 | [], []=>some ()
 | [],_::_=>none
 | _::_, []=>none
 | p::ps,v::vs=>both (p.dec v) (cV.BF ps vs)
theorem cV.nC:∀(ps:List cV) {vs:List V} {x:cV.aQ ps},cV.BF ps vs=some x→vs=cV.nB ps x
 | [], [],_,_=>rfl
 | [],_::_,_,h=>by cases h
 | _::_, [],_,h=>by cases h
 | p::ps,v::vs,x,h=>by
  obtain ⟨h1,h2⟩:=Lj (a:=p.dec v) (b:=cV.BF ps vs) h
  show v::vs=p.enc x.1::cV.nB ps x.2
  rw[←cV.GM p h1,←cV.nC ps h2]

inductive cu where
 | leaf (l:cV)
 | agg (ps:List cV)
 | func (f:Nat) (a b:List cV)

def cu.den:cu→Type
 | .leaf l=>l.den
 | .agg ps=>cV.aQ ps
 | .func _ a b=>cV.aQ a×cV.aQ b
def cu.enc:(p:cu)→p.den→V
 | .leaf l,x=>l.enc x
 | .agg ps,x => .agg (cV.nB ps x)
 | .func f a b,(x:cV.aQ a×cV.aQ b) => .func f (cV.nB a x.1) (cV.nB b x.2)
def XW (ps:List cV):V→Option (cV.aQ ps) | .agg cs=>cV.BF ps cs|_=>none
def S4 (f:Nat) (a b:List cV):V→Option (cV.aQ a×cV.aQ b) | .func g x y=>if g=f then both (cV.BF a x) (cV.BF b y)else none|_=>none
def cu.dec:(p:cu)→V→Option p.den
 | .leaf l=>l.dec
 | .agg ps=>XW ps
 | .func f a b=>S4 f a b
theorem cu.GM (p:cu) {v:V} {x:p.den} (h:p.dec v=some x):v=p.enc x:=by
 cases p with
 | leaf l=>exact cV.GM l h
 | agg ps =>
  replace h:XW ps v=some x:=h
  unfold XW at h
  split at h
  ·rename_i cs
   show V.agg cs = .agg (cV.nB ps x)
   rw[←cV.nC ps h]
  ·cases h
 | func f a b =>
  replace h:S4 f a b v=some x:=h
  unfold S4 at h
  split at h
  ·split at h
   ·rename_i e
    subst e
    obtain ⟨h1,h2⟩:=Lj h
    rename_i g p q
    show V.func g p q = .func g (cV.nB a x.1) (cV.nB b x.2)
    rw[←cV.nC a h1,←cV.nC b h2]
   ·cases h
  ·cases h
def cu.aQ:List cu→Type
 | []=>Unit
 | p::ps=>p.den×cu.aQ ps
def cu.nB:(ps:List cu)→cu.aQ ps→List V
 | [],_ => []
 | p::ps,(x:p.den×cu.aQ ps)=>p.enc x.1::cu.nB ps x.2
def cu.BF:(ps:List cu)→List V→Option (cu.aQ ps)
 | [], []=>some ()
 | [],_::_=>none
 | _::_, []=>none
 | p::ps,v::vs=>both (p.dec v) (cu.BF ps vs)
theorem cu.nC:∀(ps:List cu) {vs:List V} {x:cu.aQ ps},cu.BF ps vs=some x→vs=cu.nB ps x
 | [], [],_,_=>rfl
 | [],_::_,_,h=>by cases h
 | _::_, [],_,h=>by cases h
 | p::ps,v::vs,x,h=>by
  obtain ⟨h1,h2⟩:=Lj (a:=p.dec v) (b:=cu.BF ps vs) h
  show v::vs=p.enc x.1::cu.nB ps x.2
  rw[←cu.GM p h1,←cu.nC ps h2]

inductive aw where
 | free|dead|tok|iter
 | cells (ps:List cV)
 | row (T:Ty)
 | qV (p:cV)
 | qW (K T:Ty)

def aw.den:aw→Type
 | .cells ps=>cV.aQ ps
 | .row T=>List T.den
 | .qV p=>p.den
 | .qW K T=>List (K.den×T.den)
 | .iter=>aA×Nat
 | _=>Unit
def aw.enc:(p:aw)→p.den→aP
 | .free,_ => .free
 | .dead,_ => .dead
 | .tok,_ => .tok
 | .iter,x => .iter (Prod.fst (α:=aA) (β:=Nat) x) (Prod.snd (α:=aA) (β:=Nat) x)
 | .cells ps,x => .cells (cV.nB ps x)
 | .row T,x => .row T x
 | .qV p,x => .qV (p.enc x)
 | .qW K T,x => .qW K T x
def XX (p:cV):aP→Option p.den | .qV v=>p.dec v|_=>none
def XY (ps:List cV):aP→Option (cV.aQ ps) | .cells cs=>cV.BF ps cs|_=>none
def XZ (T:Ty):aP→Option (List T.den) | .row T' l=>if h:T'=T then some (h▸l)else none|_=>none
def X0 (K T:Ty):aP→Option (List (K.den×T.den)) | .qW K' T' l=>if h:K'=K∧T'=T then some (h.1▸h.2▸l)else none|_=>none
def X1:aP→Option Unit | .free=>some ()|_=>none
def X2:aP→Option Unit | .dead=>some ()|_=>none
def X3:aP→Option (aA×Nat) | .iter s p=>some (s,p)|_=>none
def X4:aP→Option Unit | .tok=>some ()|_=>none
def aw.dec:(p:aw)→aP→Option p.den
 | .free=>X1
 | .dead=>X2
 | .tok=>X4
 | .iter=>X3
 | .cells ps=>XY ps
 | .row T=>XZ T
 | .qV p=>XX p
 | .qW K T=>X0 K T
theorem aw.GM (p:aw) {o:aP} {x:p.den} (h:p.dec o=some x):o=p.enc x:=by
 cases p with
 | free=>replace h:X1 o=some x:=h; unfold X1 at h; split at h <;> first|rfl|cases h
 | dead=>replace h:X2 o=some x:=h; unfold X2 at h; split at h <;> first|rfl|cases h
 | tok=>replace h:X4 o=some x:=h; unfold X4 at h; split at h <;> first|rfl|cases h
 | iter=>replace h:X3 o=some x:=h; unfold X3 at h; split at h <;> first|(cases h; rfl)|cases h
 | cells ps =>
  replace h:XY ps o=some x:=h
  unfold XY at h
  split at h
  ·rename_i cs
   show aP.cells cs = .cells (cV.nB ps x)
   rw[←cV.nC ps h]
  ·cases h
 | qV p =>
  replace h:XX p o=some x:=h
  unfold XX at h
  split at h
  ·rename_i v
   show aP.qV v = .qV (p.enc x)
   rw[←cV.GM p h]
  ·cases h
 | qW K T =>
  replace h:X0 K T o=some x:=h
  unfold X0 at h
  split at h
  ·split at h
   ·rename_i e; obtain ⟨rfl,rfl⟩:=e; cases h; rfl
   ·cases h
  ·cases h
 | row T =>
  replace h:XZ T o=some x:=h
  unfold XZ at h
  split at h
  ·split at h
   ·rename_i e; subst e; cases h; rfl
   ·cases h
  ·cases h
def aw.aQ:List aw→Type
 | []=>Unit
 | p::ps=>p.den×aw.aQ ps
def aw.nB:(ps:List aw)→aw.aQ ps→ai
 | [],_ => []
 | p::ps,(x:p.den×aw.aQ ps)=>p.enc x.1::aw.nB ps x.2
def aw.BF:(ps:List aw)→List aP→Option (aw.aQ ps)
 | [], []=>some ()
 | [],_::_=>none
 | _::_, []=>none
 | p::ps,v::vs=>both (p.dec v) (aw.BF ps vs)
theorem aw.nC:∀(ps:List aw) {vs:List aP} {x:aw.aQ ps},aw.BF ps vs=some x→vs=aw.nB ps x
 | [], [],_,_=>rfl
 | [],_::_,_,h=>by cases h
 | _::_, [],_,h=>by cases h
 | p::ps,v::vs,x,h=>by
  obtain ⟨h1,h2⟩:=Lj (a:=p.dec v) (b:=aw.BF ps vs) h
  show v::vs=p.enc x.1::aw.nB ps x.2
  rw[←aw.GM p h1,←aw.nC ps h2]

theorem aw.Rl:∀(ps:List aw) (x:aw.aQ ps),(aw.nB ps x).length=ps.length
 | [],_=>rfl
 | p::ps,x=>by
  show (p.enc x.1::aw.nB ps x.2).length=_
  simp[aw.Rl ps]

section
variable {R:Type} {P:Program} {tt:ca}

def bx (ps:List cu) (hs:List aw) (run:cu.aQ ps→aw.aQ hs→(V→ai→Option R)→Option R) (other:Spec R):Spec R:=fun args h k =>
 match cu.BF ps args,aw.BF hs h with
 | some x,some y=>run x y k
 | _,_=>other args h k

def aL:Spec R:=fun _ _ _=>none

theorem Af (g:Nat):Spec.Ok P g (aL:Spec R):=by intro vs h k r hk; cases hk

theorem VA {g:Nat} {ps:List cu} {hs:List aw} {run:cu.aQ ps→aw.aQ hs→(V→ai→Option R)→Option R} {other own:Spec R} (ho:Spec.Ok P g other) (hw:Spec.W3 P g hs.length own)
  (hr:∀x y k,own (cu.nB ps x) (aw.nB hs y) k=run x y k):Spec.Ok P g (bx ps hs run other):=by
 intro vs h k r hk
 unfold bx at hk
 split at hk
 ·rename_i x y h1 h2
  rw[cu.nC ps h1,aw.nC hs h2]
  rw[←hr]at hk
  exact hw _ _ _ _ (aw.Rl hs y) hk
 ·exact ho _ _ _ _ hk

def bF (ps:List cu) (hs:List aw) (run:cu.aQ ps→aw.aQ hs→(Ex→St→Option R)→Option R) (other:bO R):bO R:=fun st K =>
 match cu.BF ps st.fr,aw.BF hs st.hp with
 | some x,some y=>run x y K
 | _,_=>other st K

def dZ:bO R:=fun _ _=>none

def dK (tt:ca) (E:Env R) (L:Nat→Option (Hint×bO R)) (m:Nat) (a:Code) (hint:Hint) (ls:bO R):Prop :=
 ∀st (K:Ex→St→Option R) r,ls st K=some r→∃n,xH (fm tt E L m a) (norm m hint) n st (fun e st=>K e (trim m hint st))=some r

theorem cj {E:Env R} {L:Nat→Option (Hint×bO R)} {m:Nat} {a:Code} {hint:Hint}:dK tt E L m a hint dZ:=by intro st K r hk; cases hk

theorem VB {E:Env R} {L:Nat→Option (Hint×bO R)} {m:Nat} {a:Code} {hint:Hint} {ps:List cu} {hs:List aw} {run:cu.aQ ps→aw.aQ hs→(Ex→St→Option R)→Option R} {other:bO R} (ho:dK tt E L m a hint other)
  (hr:∀x y K,∃n,xH (fm tt E L m a) (norm m hint) n ⟨cu.nB ps x,aw.nB hs y⟩ (fun e st=>K e (trim m hint st))=run x y K):dK tt E L m a hint (bF ps hs run other):=by
 intro st K r hk
 obtain ⟨fr,hp⟩:=st
 unfold bF at hk
 simp only at hk
 split at hk
 ·rename_i x y h1 h2
  rw[cu.nC ps h1,aw.nC hs h2]
  obtain ⟨n,hn⟩:=hr x y K
  exact ⟨n,by rw[hn]; exact hk⟩
 ·exact ho _ _ _ hk

def ar (f:Func):Code:=f.body.getD .skip

theorem dx {E:Env R} {L:Nat→Option (Hint×bO R)} {m:Nat} {l:List Code} (n:Nat) (hn:l.length=n) (h:∀i,i<n→dY tt E L m (l.getD i .skip)):∀a∈l,dY tt E L m a:=by
 intro a ha
 obtain ⟨i,hi,rfl⟩:=List.mem_iff_getElem.1 ha
 have:=h i (by omega)
 simpa [List.getD,List.getElem?_eq_getElem hi]using this

theorem bw {E:Env R} {L:Nat→Option (Hint×bO R)} {m:Nat} {a:Code} {hint:Hint} {ls:bO R} (h:L (keyOf a)=some (hint,ls)) (hs:dK tt E L m a hint ls):dY tt E L m a:=by
 intro hint' ls' hl
 rw[h]at hl
 cases hl
 exact hs

def roundOf (tt:ca) (E:Env R) (L:Nat→Option (Hint×bO R)) (m:Nat) (a:Code) (hint:Hint) (st:St) (bS:St→Option R) (K:Ex→St→Option R):Option R :=
 fm tt E L m a st fun e oc=>match e with | .normal=>bS (norm m hint oc)|e=>K e (trim m hint oc)

theorem S5 {E:Env R} {L:Nat→Option (Hint×bO R)} {m:Nat} {a:Code} {hint:Hint} {n:Nat} {st:St} {K:Ex→St→Option R} :
  xH (fm tt E L m a) (norm m hint) (n+1) st (fun e st=>K e (trim m hint st))=roundOf tt E L m a hint st (fun st=>xH (fm tt E L m a) (norm m hint) n st (fun e st=>K e (trim m hint st))) K:=by
 unfold roundOf
 simp only[xH]
 congr 1
end

section
variable {P:Program} {tt:ca} {w:World} {h:ai} {c:eT}

theorem Rm:∀l:List Value,bl w h c (l.map ofConst) l
 | [] => .nil
 | v::l => .cons (JS v) (Rm l)

def zeroOf (i:TypeInfo):Option (Nat×List V×Bool):=i.zero.map fun z=>(z.cells.size,z.cells.toList.map ofConst,z.oneCell')

def BG (P:Program) (tt:ca) (t:Nat):Prop :=
 ∃i,P.info? t=some i∧i.size=(tt.at t).size∧i.bytes=(tt.at t).bytes∧zeroOf i=some ((tt.at t).size,(tt.at t).zero, !tt.isAgg t)

theorem BG.spec {t:Nat} (h:BG P tt t):∃i z,P.info? t=some i∧i.size=(tt.at t).size∧i.bytes=(tt.at t).bytes∧i.zero=some z∧z.cells.size=i.size ∧
  ∀(w:World) (h:ai) (c:eT),bl w h c (tt.at t).zero z.cells.toList:=by
 obtain ⟨i,h1,h2,h3,h4⟩:=h
 unfold zeroOf at h4
 cases hz:i.zero with
 | none=>rw[hz]at h4; cases h4
 | some z =>
  rw[hz]at h4
  simp only[Option.map_some,Option.some.injEq,Prod.mk.injEq]at h4
  refine ⟨i,z,h1,h2,h3,hz,by rw[h4.1,h2],fun w h c => ?_⟩
  rw[←h4.2.1]
  exact Rm _

theorem BG.one {t:Nat} (h:BG P tt t):∀i z,P.info? t=some i→i.zero=some z→z.oneCell' = !tt.isAgg t:=by
 intro i z hi hz
 obtain ⟨j,h1,h2,h3,h4⟩:=h
 rw[hi]at h1; cases h1
 unfold zeroOf at h4
 rw[hz]at h4
 simp only[Option.map_some,Option.some.injEq,Prod.mk.injEq]at h4
 exact h4.2.2

theorem u8s_of (h:(List.range tt.length).all (fun e=>match (tt.at e).ty with|some (.int .u8)=>Nat.beq e mZ.u8|_=>true)=true):∀e,(tt.at e).ty=some (.int .u8)→e=mZ.u8:=by
 intro e he
 by_cases hl:e<tt.length
 ·have:=List.all_eq_true.1 h e (by simpa using hl)
  rw[he]at this
  exact Nat.eq_of_beq_eq_true this
 ·have:tt.at e=TI.none:=by unfold ca.at; simp[List.getD,List.getElem?_eq_none (Nat.le_of_not_lt hl)]
  rw[this]at he; cases he

def bldOk (tt:ca) (t:Nat):Bool:=Nat.beq t mZ.qV&&tt.ok t&&(match (tt.at t).zero with | [.gk, .aI]=>true|_=>false)
theorem Z5 (h:(List.range tt.length).all (fun t=>bif (tt.at t).qV then bldOk tt t else true)=true):∀t,(tt.at t).qV=true→t=mZ.qV∧(tt.at t).zero = [.gk, .aI]∧tt.ok t=true:=by
 intro t ht
 by_cases hl:t<tt.length
 ·have:=List.all_eq_true.1 h t (by simpa using hl)
  rw[ht]at this
  simp only[cond_true,bldOk,Bool.and_eq_true]at this
  obtain ⟨⟨h1,h2⟩,h3⟩:=this
  refine ⟨Nat.eq_of_beq_eq_true h1,?_,h2⟩
  split at h3
  ·assumption
  ·cases h3
 ·have:tt.at t=TI.none:=by unfold ca.at; simp[List.getD,List.getElem?_eq_none (Nat.le_of_not_lt hl)]
  rw[this]at ht; cases ht

end

section
variable {P:Program} {tt:ca} {w:World} {h:ai} {c:eT}

def Rn (P:Program) (ty:TypeId) (z:V):Prop :=
 (∃k n,z = .int k n∧P.underlying ty=some (.int k))∨(∃s,z = .str s∧P.underlying ty=some .string)∨(∃b,z = .bool b∧P.underlying ty=some .bool)

theorem Fc {ty:TypeId} {z:V} (s:Rn P ty z) {xs:Array Value} {j:Nat} {x:Value} (hx:xs[j]? = some x):(part ty xs j).run P w = .ok x w:=by
 rcases s with ⟨k,n,_,hu⟩|⟨n,_,hu⟩|⟨n,_,hu⟩ <;> simp[part,Go.isAgg,run_underlying hu,hx]

theorem eqF (d:Nat) (xs ys:Array Value):∀(fs:List Field) (zs cs ds:List V) (j:Nat) (b:Bool),(∀i f z,fs[i]? = some f→zs[i]? = some z→f.name ≠ "_" ∧ f.offset=j+i∧Rn P f.type z)→fs.length=zs.length →
  cU zs cs=true→cU zs ds=true→fC cs ds=some b→(∀i v,cs[i]? = some v→∃x,xs[j+i]? = some x∧cd w h c v x)→(∀i v,ds[i]? = some v→∃x,ys[j+i]? = some x∧cd w h c v x) →
  (Op.eqFields (d+1) xs ys fs).run P w = .ok b w
 | [],zs,cs,ds,j,b,_,hl,hc,hd,he,_,_=>by
  have:zs = []:=List.eq_nil_of_length_eq_zero hl.symm
  subst this
  cases cs with
  | cons=>cases hc
  | nil =>
   cases ds with
   | cons=>cases hd
   | nil=>cases he; simp[Op.eqFields]
 | f::fs, [],_,_,_,_,_,hl,_,_,_,_,_=>by cases hl
 | f::fs,z::zs,cs,ds,j,b,hf,hl,hc,hd,he,hx,hy=>by
  obtain ⟨h1,h2,h3⟩:=hf 0 f z rfl rfl
  have U6:∀i g y,fs[i]? = some g→zs[i]? = some y→g.name ≠ "_" ∧ g.offset=(j+1)+i∧Rn P g.type y:=fun i g y hg hy=>by
   have:=hf (i+1) g y (by simpa using hg) (by simpa using hy)
   exact ⟨this.1,by omega,this.2.2⟩
  have Wj:fs.length=zs.length:=by simpa using hl
  cases cs with
  | nil=>cases z <;> cases hc
  | cons c0 cs =>
   cases ds with
   | nil=>cases z <;> cases hd
   | cons d0 ds =>
    obtain ⟨x,hx0,rx⟩:=hx 0 c0 rfl
    obtain ⟨y,hy0,ry⟩:=hy 0 d0 rfl
    have Z2:∀i v,cs[i]? = some v→∃x,xs[(j+1)+i]? = some x∧cd w h c v x:=fun i v hv=>by
     obtain ⟨x,q1,q2⟩:=hx (i+1) v (by simpa using hv)
     exact ⟨x,by rw[←q1]; congr 1; omega,q2⟩
    have hy':∀i v,ds[i]? = some v→∃x,ys[(j+1)+i]? = some x∧cd w h c v x:=fun i v hv=>by
     obtain ⟨x,q1,q2⟩:=hy (i+1) v (by simpa using hv)
     exact ⟨x,by rw[←q1]; congr 1; omega,q2⟩
    have p1:=Fc (w:=w) h3 hx0
    have p2:=Fc (w:=w) h3 hy0
    have fin:∀(r:Bool),(Op.equalIn (d+1) f.type x y).run P w = .ok r w→∀b',fC cs ds=some b'→cU zs cs=true→cU zs ds=true→b=(r&&b')→(Op.eqFields (d+1) xs ys (f::fs)).run P w = .ok b w:=by
     intro r hr b' k9 kc kd hb
     subst hb
     have ih:=eqF d xs ys fs zs cs ds (j+1) b' U6 Wj kc kd k9 Z2 hy'
     simp only[Op.eqFields,h1,ne_eq,not_false_eq_true,if_true,Sem.run_bind,h2,Nat.add_zero,p1,p2,Result.andThen_ok,hr]
     simp only[Nat.add_zero]at p1 p2
     simp only[p1,p2,Result.andThen_ok,hr]
     cases r with
     | true=>simpa using ih
     | false=>simp
    rcases h3 with ⟨k,n,rfl,hu⟩|⟨s,rfl,hu⟩|⟨q,rfl,hu⟩
    ·cases c0 with
     | int k1 n1 =>
      cases d0 with
      | int k2 n2 =>
       simp only[cU,Bool.and_eq_true,decide_eq_true_eq]at hc hd
       obtain ⟨rfl,hc⟩:=hc
       obtain ⟨rfl,hd⟩:=hd
       cases rx
       cases ry
       simp only[fC,if_true]at he
       split at he
       ·rename_i b' k9
        cases he
        exact fin _ (run_equalIn_int w d _ _ _ _ _ hu) b' k9 hc hd rfl
       ·cases he
      | _=>simp[cU]at hd
     | _=>simp[cU]at hc
    ·cases c0 with
     | str s1 =>
      cases d0 with
      | str s2 =>
       simp only[cU]at hc hd
       cases rx
       cases ry
       simp only[fC]at he
       split at he
       ·rename_i b' k9
        cases he
        refine fin _ (run_equalIn_string w d _ _ _ hu) b' k9 hc hd ?_
        congr 1
        simp only[ByteArray.toList_eq]
       ·cases he
      | _=>simp[cU]at hd
     | _=>simp[cU]at hc
    ·cases c0 with
     | bool s1 =>
      cases d0 with
      | bool s2 =>
       simp only[cU]at hc hd
       cases rx
       cases ry
       simp only[fC]at he
       split at he
       ·rename_i b' k9
        cases he
        exact fin _ (run_equalIn_bool' w d _ _ _ hu) b' k9 hc hd rfl
       ·cases he
      | _=>simp[cU]at hd
     | _=>simp[cU]at hc

def FlatT (P:Program) (ty:TypeId) (g:List V):Prop :=
 P.underlying ty=some (.struct (P.fieldsOf ty))∧P.stoodInHeld ty=false∧(∃i,P.info? ty=some i)∧P.cellsOf ty=g.length∧(P.fieldsOf ty).toList.length=g.length ∧
  ∀i f z,(P.fieldsOf ty).toList[i]? = some f→g[i]? = some z→f.name ≠ "_" ∧ f.offset=0+i∧Rn P f.type z

def PT (P:Program):List Field→List (List V)→Nat→Prop
 | [], [],_=>True
 | f::fs,g::gs,j=>f.name ≠ "_" ∧ f.offset=j∧((∃z,g = [z]∧Rn P f.type z)∨FlatT P f.type g)∧PT P fs gs (j+g.length)
 | _,_,_=>False

theorem DW:∀ {zs cs:List V},cU zs cs=true→cs.length=zs.length
 | [], [],_=>rfl
 | [],_::_,h=>by cases h
 | z::_, [],h=>by cases z <;> cases h
 | z::zs,c::cs,h=>by
  have:cU zs cs=true:=by
   cases z <;> cases c <;> simp[cU]at h
   ·exact h.2
   ·exact h
   ·exact h
  simp[DW this]

theorem yA:∀ {g zs cs:List V},cU (g++zs) cs=true→cU g (cs.take g.length)=true∧cU zs (cs.drop g.length)=true
 | [],zs,cs,h=>by simpa [cU]using h
 | z::g,zs, [],h=>by cases z <;> cases h
 | z::g,zs,c::cs,h=>by
  have key:cU (g++zs) cs=true:=by
   cases z <;> cases c <;> simp[cU]at h
   ·exact h.2
   ·exact h
   ·exact h
  obtain ⟨h1,h2⟩:=yA key
  refine ⟨?_,by simpa using h2⟩
  simp only[List.length_cons,List.take_succ_cons]
  cases z <;> cases c <;> simp[cU]at h ⊢
  ·exact ⟨h.1,h1⟩
  ·exact h1
  ·exact h1

theorem uG:∀(n:Nat) {cs ds:List V} {b:Bool},fC cs ds=some b→n≤cs.length→∃b1 b2,fC (cs.take n) (ds.take n)=some b1∧fC (cs.drop n) (ds.drop n)=some b2∧b=(b1&&b2)
 | 0,cs,ds,b,h,_=>⟨true,b,by simp[fC],by simpa using h,by simp⟩
 | n+1, [],_,_,_,hn=>by simp at hn
 | n+1,c::cs, [],b,h,_=>by cases c <;> cases h
 | n+1,c::cs,d::ds,b,h,hn=>by
  have Wg:n≤cs.length:=by simpa using hn
  simp only[List.take_succ_cons,List.drop_succ_cons]
  cases c <;> cases d <;> simp only[fC]at h ⊢ <;> try (first|cases h)
  ·split at h
   ·rename_i e
    rw[if_pos e]
    split at h
    ·rename_i r hr
     cases h
     obtain ⟨b1,b2,h1,h2,h3⟩:=uG n hr Wg
     rw[h1]
     exact ⟨_,b2,rfl,h2,by rw[h3,Bool.and_assoc]⟩
    ·cases h
   ·cases h
  ·split at h
   ·rename_i r hr
    cases h
    obtain ⟨b1,b2,h1,h2,h3⟩:=uG n hr Wg
    rw[h1]
    exact ⟨_,b2,rfl,h2,by rw[h3,Bool.and_assoc]⟩
   ·cases h
  ·split at h
   ·rename_i r hr
    cases h
    obtain ⟨b1,b2,h1,h2,h3⟩:=uG n hr Wg
    rw[h1]
    exact ⟨_,b2,rfl,h2,by rw[h3,Bool.and_assoc]⟩
   ·cases h

theorem OP {ty:TypeId} {g:List V} (s:FlatT P ty g) {xs:Array Value} {j:Nat}:(part ty xs j).run P w = .ok (.agg (xs.extract j (j+g.length))) w:=by
 obtain ⟨h1,_,⟨i,h3⟩,h4,_⟩:=s
 have hs:(sizeOf ty).run P w = .ok g.length w:=by
  have:P.cellsOf ty=i.size:=by simp[Program.cellsOf,h3]
  rw[←h4,this]
  simp[sizeOf,typeInfo,h3]
 simp[part,Go.isAgg,run_underlying h1,hs]

theorem eqG (d:Nat) (xs ys:Array Value):∀(fs:List Field) (gs:List (List V)) (cs ds:List V) (j:Nat) (b:Bool),PT P fs gs j→cU gs.flatten cs=true→cU gs.flatten ds=true→fC cs ds=some b →
  (∀i v,cs[i]? = some v→∃x,xs[j+i]? = some x∧cd w h c v x)→(∀i v,ds[i]? = some v→∃x,ys[j+i]? = some x∧cd w h c v x)→(Op.eqFields (d+2) xs ys fs).run P w = .ok b w
 | [], [],cs,ds,j,b,_,hc,hd,he,_,_=>by
  cases cs with
  | cons=>cases hc
  | nil =>
   cases ds with
   | cons=>cases hd
   | nil=>cases he; simp[Op.eqFields]
 | [],_::_,_,_,_,_,hn,_,_,_,_,_=>by cases hn
 | _::_, [],_,_,_,_,hn,_,_,_,_,_=>by cases hn
 | f::fs,g::gs,cs,ds,j,b,hn,hc,hd,he,hx,hy=>by
  obtain ⟨n1,n2,n3,n4⟩:=hn
  rw[List.flatten_cons]at hc hd
  obtain ⟨c1,c2⟩:=yA hc
  obtain ⟨d1,d2⟩:=yA hd
  have lc:=DW hc
  have ld:=DW hd
  rw[List.length_append]at lc ld
  obtain ⟨b1,b2,e1,e2,rfl⟩:=uG g.length he (by omega)
  have behind:∀ {cs:List V} {xs:Array Value},(∀i v,cs[i]? = some v→∃x,xs[j+i]? = some x∧cd w h c v x)→∀i v,(cs.drop g.length)[i]? = some v→∃x,xs[(j+g.length)+i]? = some x∧cd w h c v x:=by
   intro cs xs hx i v hv
   rw[List.getElem?_drop]at hv
   obtain ⟨x,q1,q2⟩:=hx _ v hv
   exact ⟨x,by rw[←q1]; congr 1; omega,q2⟩
  have ih:=eqG d xs ys fs gs _ _ (j+g.length) b2 n4 c2 d2 e2 (behind hx) (behind hy)
  -- what the field is
  have key:∃x y,(part f.type xs j).run P w = .ok x w∧(part f.type ys j).run P w = .ok y w∧(Op.equalIn (d+2) f.type x y).run P w = .ok b1 w:=by
   rcases n3 with ⟨z,rfl,hz⟩|hF
   ·-- one cell: the flat case, alone
    cases cs with
    | nil=>simp only[List.length_nil,List.length_cons]at lc; omega
    | cons c0 cs =>
     cases ds with
     | nil=>simp only[List.length_nil,List.length_cons]at ld; omega
     | cons d0 ds =>
      simp only[List.length_cons,List.length_nil,Nat.zero_add,List.take_succ_cons,List.take_zero]at c1 d1 e1
      obtain ⟨x,hx0,rx⟩:=hx 0 c0 rfl
      obtain ⟨y,hy0,ry⟩:=hy 0 d0 rfl
      rw[Nat.add_zero]at hx0 hy0
      refine ⟨x,y,Fc hz hx0,Fc hz hy0,?_⟩
      rcases hz with ⟨k,n,rfl,hu⟩|⟨s,rfl,hu⟩|⟨q,rfl,hu⟩
      ·cases c0 <;> simp[cU]at c1
       cases d0 <;> simp[cU]at d1
       subst c1 d1
       cases rx
       cases ry
       simp only[fC,if_true,Option.some.injEq]at e1
       subst e1
       rw[Bool.and_true]
       exact run_equalIn_int w (d+1) _ _ _ _ _ hu
      ·cases c0 <;> simp[cU]at c1
       cases d0 <;> simp[cU]at d1
       cases rx
       cases ry
       simp only[fC,Option.some.injEq]at e1
       subst e1
       rw[Bool.and_true]
       refine (run_equalIn_string w (d+1) f.type _ _ hu).trans ?_
       congr 1
       simp only[ByteArray.toList_eq]
      ·cases c0 <;> simp[cU]at c1
       cases d0 <;> simp[cU]at d1
       cases rx
       cases ry
       simp only[fC,Option.some.injEq]at e1
       subst e1
       rw[Bool.and_true]
       exact run_equalIn_bool' w (d+1) _ _ _ hu
   ·refine ⟨_,_,OP hF,OP hF,?_⟩
    obtain ⟨h1,h2,h3,h4,h5,h6⟩:=hF
    rw[run_equalIn_struct w (d+1) f.type _ _ h1 h2]
    have at0:∀ {cs:List V} {xs:Array Value},(∀i v,cs[i]? = some v→∃x,xs[j+i]? = some x∧cd w h c v x)→∀i v,(cs.take g.length)[i]? = some v→∃x,(xs.extract j (j+g.length))[0+i]? = some x∧cd w h c v x:=by
     intro cs xs hx i v hv
     have hi:i<g.length:=by
      have:=(List.getElem?_eq_some_iff.1 hv).1
      rw[List.length_take]at this
      omega
     rw[List.getElem?_take_of_lt hi]at hv
     obtain ⟨x,q1,q2⟩:=hx i v hv
     refine ⟨x,?_,q2⟩
     rw[Nat.zero_add,Array.getElem?_extract]
     have k8:j+i<xs.size:=(Array.getElem?_eq_some_iff.1 q1).1
     rw[if_pos (by omega),q1]
    exact eqF d _ _ _ _ _ _ 0 b1 h6 h5 c1 d1 e1 (at0 hx) (at0 hy)
  obtain ⟨x,y,p1,p2,hr⟩:=key
  simp only[Op.eqFields,n1,ne_eq,not_false_eq_true,if_true,Sem.run_bind,n2,p1,p2,Result.andThen_ok,hr]
  cases b1 with
  | true=>simpa using ih
  | false=>simp

def X5 (e:TypeId) (i:Nat):Field:=⟨"x",e,i,false, "", "",0⟩
theorem DX (d:Nat) (e:TypeId) (xs ys:Array Value):∀is:List Nat,Op.eqItems d e 1 xs ys is=Op.eqFields d xs ys (is.map (X5 e))
 | []=>rfl
 | i::is=>by
  have ih:=DX d e xs ys is
  have hn:("x" : String) ≠ "_" :=by decide
  simp only[Op.eqItems,List.map_cons,Op.eqFields,X5,Nat.mul_one,ih]
  simp only[hn,ne_eq,not_false_eq_true,if_true]
def EqArr (P:Program) (zero:List V) (t:Nat):Prop :=
 ∃e i,P.underlying t=some (.array zero.length e)∧P.info? e=some i∧P.cellsOf e=1∧∀z∈zero,Rn P e z
theorem VC {t:Nat} {zero cs ds:List V} (ha:EqArr P zero t) (d:Nat) {xs ys:Array Value} {b:Bool} (hc:cU zero cs=true) (hd:cU zero ds=true) (he:fC cs ds=some b)
  (hx:∀i v,cs[i]? = some v→∃x,xs[0+i]? = some x∧cd w h c v x) (hy:∀i v,ds[i]? = some v→∃x,ys[0+i]? = some x∧cd w h c v x):(Op.equalIn (d+2) t (.agg xs) (.agg ys)).run P w = .ok b w:=by
 obtain ⟨e,i,h1,h2,h3,h4⟩:=ha
 rw[run_equalIn_array w (d+1) xs ys h1 h2,h3,DX]
 refine eqF d xs ys _ zero cs ds 0 b (fun j f z hf hz => ?_) (by simp) hc hd he hx hy
 rw[List.getElem?_map]at hf
 have hj:j<zero.length:=(List.getElem?_eq_some_iff.1 hz).1
 rw[List.getElem?_range hj,Option.map_some,Option.some.injEq]at hf
 subst hf
 exact ⟨show ("x" : String) ≠ "_" by decide,by simp[X5],h4 z (List.mem_of_getElem? hz)⟩

def DY (P:Program) (tt:ca) (t:Nat):Prop :=
 P.eqGuardType P.depth t=false∧((P.underlying t=some (.struct (P.fieldsOf t))∧P.stoodInHeld t=false∧∃gs,gs.flatten=(tt.at t).zero∧PT P (P.fieldsOf t).toList gs 0)∨EqArr P (tt.at t).zero t)

def Ro (P:Program) (ty:TypeId):V→Bool
 | .int k _=>(match P.underlying ty with|some (.int k')=>decide (k'=k)|_=>false)
 | .str _=>(match P.underlying ty with|some .string=>true|_=>false)
 | .bool _=>(match P.underlying ty with|some .bool=>true|_=>false)
 | _=>false

theorem GN {ty:TypeId} {z:V} (h:Ro P ty z=true):Rn P ty z:=by
 unfold Ro at h
 split at h
 ·split at h
  ·rename_i k n _ k' hu
   have e:k'=k:=by simpa using h
   subst e
   exact .inl ⟨_,_,rfl,hu⟩
  ·cases h
 ·split at h
  ·rename_i hu; exact .inr (.inl ⟨_,rfl,hu⟩)
  ·cases h
 ·split at h
  ·rename_i hu; exact .inr (.inr ⟨_,rfl,hu⟩)
  ·cases h
 ·cases h

def Ud (P:Program):List Field→List V→Nat→Bool
 | [], [],_=>true
 | f::fs,z::zs,j=>decide (f.name ≠ "_")&&decide (f.offset=j)&&Ro P f.type z&&Ud P fs zs (j+1)
 | _,_,_=>false

theorem Mp:∀(fs:List Field) (zs:List V) (j:Nat),Ud P fs zs j=true→fs.length=zs.length∧∀i f z,fs[i]? = some f→zs[i]? = some z→f.name ≠ "_" ∧ f.offset=j+i∧Rn P f.type z
 | [], [],_,_=>⟨rfl,fun i f z h=>by simp at h⟩
 | [],_::_,_,h=>by cases h
 | _::_, [],_,h=>by cases h
 | f::fs,z::zs,j,h=>by
  simp only[Ud,Bool.and_eq_true,decide_eq_true_eq]at h
  obtain ⟨⟨⟨h1,h2⟩,h3⟩,h4⟩:=h
  obtain ⟨g1,g2⟩:=Mp fs zs (j+1) h4
  refine ⟨by simp[g1],fun i g y hg hy => ?_⟩
  cases i with
  | zero =>
   simp at hg hy
   subst hg; subst hy
   exact ⟨h1,h2,GN h3⟩
  | succ i =>
   obtain ⟨q1,q2,q3⟩:=g2 i g y (by simpa using hg) (by simpa using hy)
   exact ⟨q1,by omega,q3⟩

def flatB (P:Program) (ty:TypeId) (g:List V):Bool :=
 (match P.info? ty with|some _=>true|none=>false)&&Nat.beq (P.cellsOf ty) g.length && !P.stoodInHeld ty&&Ud P (P.fieldsOf ty).toList g 0
def OQ (P:Program):List Field→List V→Nat→Bool
 | [],zs,_=>zs.isEmpty
 | f::fs,zs,j =>
  decide (f.name ≠ "_")&&decide (f.offset=j) &&
   (match P.underlying f.type with
    | some (.struct fl)=>flatB P f.type (zs.take fl.size)&&OQ P fs (zs.drop fl.size) (j+fl.size)
    | _=>(match zs with|z::zr=>Ro P f.type z&&OQ P fs zr (j+1) | []=>false))

theorem GO:∀(fs:List Field) (zs:List V) (j:Nat),OQ P fs zs j=true→∃gs:List (List V),gs.flatten=zs∧PT P fs gs j
 | [],zs,j,h=>⟨[],by simpa [OQ]using h.symm,trivial⟩
 | f::fs,zs,j,h=>by
  simp only[OQ,Bool.and_eq_true,decide_eq_true_eq]at h
  obtain ⟨⟨h1,h2⟩,h3⟩:=h
  split at h3
  ·rename_i fl hu
   rw[Bool.and_eq_true]at h3
   obtain ⟨g1,g2⟩:=h3
   have hfo:P.fieldsOf f.type=fl:=by simp[Program.fieldsOf,hu]
   obtain ⟨gs,e1,e2⟩:=GO fs _ _ g2
   unfold flatB at g1
   simp only[Bool.and_eq_true,Bool.not_eq_true']at g1
   obtain ⟨⟨⟨k1,k2⟩,k3⟩,k4⟩:=g1
   obtain ⟨q1,q2⟩:=Mp _ _ _ k4
   have hlen:(zs.take fl.size).length=fl.size:=by rw[←q1,hfo]; simp
   refine ⟨zs.take fl.size::gs,by rw[List.flatten_cons,e1,List.take_append_drop],h1,h2, .inr ⟨by rw[hfo]; exact hu,k3,?_,Nat.eq_of_beq_eq_true k2,q1,q2⟩,by rw[hlen]; exact e2⟩
   cases hi:P.info? f.type with
   | none=>rw[hi]at k1; cases k1
   | some i=>exact ⟨i,rfl⟩
  ·split at h3
   ·rename_i z zr
    rw[Bool.and_eq_true]at h3
    obtain ⟨gs,e1,e2⟩:=GO fs _ _ h3.2
    exact ⟨[z]::gs,by rw[List.flatten_cons,e1]; rfl,h1,h2, .inl ⟨z,rfl,GN h3.1⟩,e2⟩
   ·cases h3

theorem DY.of {t:Nat} (h1:P.underlying t=some (.struct (P.fieldsOf t))) (h2:P.stoodInHeld t=false) (h3:P.eqGuardType P.depth t=false) (h4:OQ P (P.fieldsOf t).toList (tt.at t).zero 0=true):DY P tt t :=
 ⟨h3, .inl ⟨h1,h2,GO _ _ _ h4⟩⟩
def arrB (P:Program) (e:TypeId) (zero:List V):Bool:=(match P.info? e with|some _=>true|none=>false)&&Nat.beq (P.cellsOf e) 1&&zero.all (Ro P e)
theorem DY.ofArr {t e:Nat} (h1:P.underlying t=some (.array (tt.at t).zero.length e)) (h3:P.eqGuardType P.depth t=false) (h4:arrB P e (tt.at t).zero=true):DY P tt t:=by
 unfold arrB at h4
 simp only[Bool.and_eq_true]at h4
 obtain ⟨⟨g1,g2⟩,g3⟩:=h4
 refine ⟨h3, .inr ?_⟩
 cases hi:P.info? e with
 | none=>rw[hi]at g1; cases g1
 | some i=>exact ⟨e,i,h1,hi,Nat.eq_of_beq_eq_true g2,fun z hz=>GN (List.all_eq_true.1 g3 z hz)⟩

theorem Z6 {i:TI} {a b:List V} (h:Pp i a b=true):i.eq=true:=by
 unfold Pp at h
 simp only[Bool.and_eq_true]at h
 exact h.1.1

theorem X6 {t:Nat} (e:DY P tt t) {cs ds:List V} {xs ys:Array Value} {b:Bool} (hk:Pp (tt.at t) cs ds=true) (rx:bl w h c cs xs.toList) (ry:bl w h c ds ys.toList) (hb:fC cs ds=some b) :
  P.eqGuardType P.depth t=false∧(Op.equalIn 10000 t (.agg xs) (.agg ys)).run P w = .ok b w:=by
 obtain ⟨e3,e⟩:=e
 refine ⟨e3,?_⟩
 unfold Pp at hk
 simp only[Bool.and_eq_true]at hk
 have get:∀ {cs:List V} {xs:Array Value},bl w h c cs xs.toList→∀i v,cs[i]? = some v→∃x,xs[0+i]? = some x∧cd w h c v x:=by
  intro cs xs r i v hv
  have hi:=(List.getElem?_eq_some_iff.1 hv).1
  have hl:i<xs.size:=by have:=r.1; simp at this; omega
  refine ⟨xs[i],by simp[hl],r.2 i v _ hv (by simp[hl])⟩
 rcases e with ⟨e1,e2,gs,e4,e5⟩|e
 ·rw[run_equalIn_struct w 9999 t xs ys e1 e2]
  exact eqG 9997 xs ys _ gs cs ds 0 b e5 (by rw[e4]; exact hk.1.2) (by rw[e4]; exact hk.2) hb (get rx) (get ry)
 ·exact VC e 9998 hk.1.2 hk.2 hb (get rx) (get ry)
end

section
variable {R:Type} {P:Program} {tt:ca}

mutual
def Json.depth:Json→Nat
 | ⟨_,_,_,_,l⟩=>Json.Mq l+1
def Json.Mq:List Json→Nat
 | []=>0
 | x::l=>max x.depth (Json.Mq l)
end
mutual
def Raw.depth:Raw→Nat
 | ⟨_,_,_,_,l⟩=>Raw.Mq l+1
def Raw.Mq:List Raw→Nat
 | []=>0
 | x::l=>max x.depth (Raw.Mq l)
end

def Bi.fu (x:Bi):Nat:=x.iL.natAbs+x.exp.natAbs
def Json.fu (x:Json):Nat:=x.text.length+x.names.length+x.items.length
def Raw.fu (x:Raw):Nat:=x.text.length+x.items.length
def Nx.fu (x:Nx):Nat:=x.kind.natAbs+x.iL.natAbs+x.exp.natAbs+x.text.length
def Y7.fu (x:Y7):Nat:=x.name.length
def Ny.fu (x:Ny):Nat:=x.topic.length+x.data.length
def Token.fu (x:Token):Nat:=x.text.length
def Stop.fu (x:Stop):Nat:=0
def Way.fu (x:Way):Nat:=0
def Order.fu (x:Order):Nat:=x.header.natAbs+x.ae.length+x.order.natAbs+x.update.natAbs+x.nodes.length+x.af.length
def Edge.fu (x:Edge):Nat:=0
def cf.fu (x:cf):Nat:=x.nodes.natAbs+x.af.length
def FG.fu (x:FG):Nat:=x.maker.length+x.Ww.length+x.kind.length
def State.fu (x:State):Nat:=x.header.natAbs+x.aX.natAbs+x.ae.length+x.order.natAbs+x.update.natAbs+x.node.natAbs+x.seq.natAbs+x.accepted.natAbs
def bN.fu (x:bN):Nat:=x.ae.length+x.header.natAbs+x.order.natAbs+x.update.natAbs+x.aX.natAbs+x.seen.natAbs+x.path.length+x.seq.natAbs+x.rel.natAbs+x.pending.header.natAbs+x.pending.ae.length+x.pending.order.natAbs+x.pending.update.natAbs+x.pending.nodes.length+x.pending.af.length
def Nz.fu (x:Nz):Nat:=x.kind.natAbs+x.i.natAbs+x.k.natAbs+x.by_.natAbs+x.data.length
def kh.fu (x:kh):Nat:=x.header.natAbs+x.order.natAbs+x.update.natAbs+x.seq.natAbs+x.from_.natAbs+x.ax.natAbs+x.turns.length
def NA.fu (x:NA):Nat:=x.kind.natAbs+x.o.header.natAbs+x.o.order.natAbs+x.o.update.natAbs+x.o.seq.natAbs+x.o.from_.natAbs+x.o.ax.natAbs+x.o.turns.length+x.data.length
def NB.fu (x:NB):Nat:=x.kind.natAbs+x.n.natAbs+x.turns.length
def oD.fu (x:oD):Nat:=x.a.natAbs+x.b.natAbs+x.c.natAbs
def Kt.fu (x:Kt):Nat:=x.a.natAbs+x.b.natAbs
def NC.fu (x:NC):Nat:=x.a.iL.natAbs+x.a.exp.natAbs+x.b.iL.natAbs+x.b.exp.natAbs
def ND.fu (x:ND):Nat:=x.name.length+x.home.natAbs
def Y8.fu (x:Y8):Nat:=x.id.natAbs+x.target.natAbs+x.state.natAbs+x.ae.natAbs
def yt.fu (x:yt):Nat:=x.kind.natAbs+x.nums.length+x.text.length

theorem cI {D:Type} {E:Env R} {L:Nat→Option (Hint×bO R)} {m:Nat} {a:Code} {hint:Hint} (enc:D→St)
  (s:(Ex→St→Option R)→(D→Option R)→D→Option R) (A:(Ex→St→Option R)→Nat→D→Option R)
  (h0:∀K d,A K 0 d=none)
  (hB:∀K bS d,roundOf tt E L m a hint (enc d) bS K=s K (fun d=>bS (enc d)) d)
  (hA:∀K n d,A K (n+1) d=s K (A K n) d) (K:Ex→St→Option R) :
  ∀n d,xH (fm tt E L m a) (norm m hint) n (enc d) (fun e st=>K e (trim m hint st))=A K n d
 | 0,d=>(h0 K d).symm
 | n+1,d=>by
  rw[S5,hB,hA]
  exact congrArg (fun q=>s K q d) (funext fun d=>cI enc s A h0 hB hA K n d)

theorem bM {D:Type} {E:Env R} {L:Nat→Option (Hint×bO R)} {m:Nat} {a:Code} {hint:Hint} {ps:List cu} {hs:List aw}
  {run:cu.aQ ps→aw.aQ hs→(Ex→St→Option R)→Option R} {other:bO R} {enc:D→St} {A:(Ex→St→Option R)→Nat→D→Option R}
  (ho:dK tt E L m a hint other)
  (tie:∀K n d,xH (fm tt E L m a) (norm m hint) n (enc d) (fun e st=>K e (trim m hint st))=A K n d)
  (fuel:cu.aQ ps→aw.aQ hs→Nat) (dat:cu.aQ ps→aw.aQ hs→D)
  (henc:∀x y,(⟨cu.nB ps x,aw.nB hs y⟩:St)=enc (dat x y))
  (gN:∀x y K,run x y K=A K (fuel x y) (dat x y)):dK tt E L m a hint (bF ps hs run other) :=
 VB ho fun x y K=>⟨fuel x y,by rw[henc,gN]; exact tie K _ _⟩

end
end Go.ad
end
