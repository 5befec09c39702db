/-
  JsonWords, part 3 of 9.
-/
import Derived.Calls
import Derived.Orders
import Derived.ChangeKeysEq
import Derived.Test.YtmlkkgfenfdndaaGreatDoorJsonWordsB2
set_option linter.unusedSimpArgs false
set_option linter.unnecessarySimpa false
set_option linter.unusedVariables false
set_option linter.unusedSectionVars false
noncomputable section
namespace Go.aG
open Go.RowKit
section
variable {w w':World} {h h':aO} {c c':lj}
theorem uS {i:Nat}:∀ {cs:List V},i∈V.wm cs↔∃(j:Nat) (v:V),cs[j]? = some v∧i∈v.ids
  | []=>by simp[V.wm]
  | v::cs=>by
    simp only[V.wm,List.mem_append,uS (cs:=cs)]
    constructor
    · rintro (h|⟨j,u,h1,h2⟩)
      · exact ⟨0,v,rfl,h⟩
      · exact ⟨j+1,u,h1,h2⟩
    · rintro ⟨j,u,h1,h2⟩
      cases j with
      | zero=>simp at h1; subst h1; exact .inl h2
      | succ j=>exact .inr ⟨j,u,h1,h2⟩
theorem eG.DH {v:V} {d:Value} (r:eG w h c v d):∀i∈v.ids,Used h i:=by
  induction r with
  | undef v=>simp[V.ids]
  | int hn=>simp[V.ids]
  | bool b=>simp[V.ids]
  | str hl=>simp[V.ids]
  | fM=>simp[V.ids]
  | cV=>simp[V.ids]
  | bg=>simp[V.ids]
  | qU=>simp[V.ids]
  | eg=>simp[V.ids]
  | iface t v=>simp[V.ids]
  | NU hn=>simp[V.ids]
  | Ms b=>simp[V.ids]
  | ptr hi _=>simpa [V.ids]using hi
  | map hi _=>simpa [V.ids]using hi
  | row hi _ _=>simpa [V.ids]using hi
  | HG hi _ _=>simpa [V.ids]using hi
  | wV hi _=>simpa [V.ids]using hi
  | zD f hc _ ih =>
    intro i hi
    simp only[V.ids]at hi
    obtain ⟨j,v,h1,h2⟩:=uS.1 hi
    exact ih j v h1 i h2
  | @sl T l t A cap f ni wj hc hr DE oj ih =>
    intro i hi
    cases t with
    | no=>simp[V.ids]at hi
    | nil=>simp[V.ids]at hi
    | own j=>simp[V.ids]at hi; subst hi; exact (oj i rfl).1
  | R0 hn wj f hc _ ih =>
    intro i hi
    simp only[V.ids]at hi
    obtain ⟨j,v,h1,h2⟩:=uS.1 hi
    exact ih j v h1 i h2
  | @func f a b x y ha hb _ _ iha ihb =>
    intro i hi
    simp only[V.ids,List.mem_append]at hi
    rcases hi with hi|hi
    · obtain ⟨j,v,h1,h2⟩:=uS.1 hi
      have hj:=(List.getElem?_eq_some_iff.1 h1).1
      exact iha j v _ h1 (Array.getElem?_eq_getElem (by omega)) i h2
    · obtain ⟨j,v,h1,h2⟩:=uS.1 hi
      have hj:=(List.getElem?_eq_some_iff.1 h1).1
      exact ihb j v _ h1 (Array.getElem?_eq_getElem (by omega)) i h2
  | agg hl _ ih =>
    intro i hi
    simp only[V.ids]at hi
    obtain ⟨j,v,h1,h2⟩:=uS.1 hi
    have hj:=(List.getElem?_eq_some_iff.1 h1).1
    exact ih j v _ h1 (Array.getElem?_eq_getElem (by omega)) i h2
  | tuple hl _ ih =>
    intro i hi
    simp only[V.ids]at hi
    obtain ⟨j,v,h1,h2⟩:=uS.1 hi
    have hj:=(List.getElem?_eq_some_iff.1 h1).1
    exact ih j v _ h1 (Array.getElem?_eq_getElem (by omega)) i h2
theorem cT.DH {cs:List V} {ds:List Value} (r:cT w h c cs ds):∀i∈V.wm cs,Used h i:=by
  intro i hi
  obtain ⟨j,v,h1,h2⟩:=uS.1 hi
  have hj:=(List.getElem?_eq_some_iff.1 h1).1
  exact (r.2 j v _ h1 (List.getElem?_eq_getElem (by have:=r.1; omega))).DH i h2
theorem WF.DH (wf:WF w h c) (i:Nat):∀j∈(h.at i).ids,Used h j:=by
  intro j hj
  cases e:h.at i with
  | cells cs =>
    rw[e]at hj
    have ho:=wf.obj i (aO.ig rfl (by rw[e]; simp))
    rw[e]at ho
    obtain ⟨b,arr,el,_,_,r⟩:=ho
    exact r.DH j hj
  | oG v =>
    rw[e]at hj
    have ho:=wf.obj i (aO.ig rfl (by rw[e]; simp))
    rw[e]at ho
    obtain ⟨b,p,d,_,_,_,r⟩:=ho
    exact r.DH j hj
  | _=>rw[e]at hj; simp[cj.ids]at hj
theorem N4 (wf:WF w h c):∀(n:Nat) (todo seen:List Nat),(∀i∈todo,Used h i)→(∀i∈seen,Used h i)→∀i∈reach h n todo seen,Used h i
  | 0,_,_,_,hs=>hs
  | n+1, [],_,_,hs=>hs
  | n+1,i::todo,seen,ht,hs=>by
    simp only[reach]
    split
    · exact N4 wf n _ _ (fun j hj=>ht j (by simp[hj])) hs
    · refine N4 wf n _ _ (fun j hj => ?_) (fun j hj => ?_)
      · rcases List.mem_append.1 hj with hj|hj
        · exact ht j (by simp[hj])
        · exact wf.DH i j hj
      · rcases List.mem_append.1 hj with hj|hj
        · exact hs j hj
        · simp at hj; subst hj; exact ht j (by simp)
theorem wX.lt (wf:WF w h c) {b x:Nat} (ho:wX h c b x):b<w.heap.size:=by
  obtain ⟨i,f,h1,h2,_⟩:=ho
  have hl:(h.at i).live:=by cases e:h.at i <;> rw[e]at h2 <;> simp_all [cj.from_,cj.live]
  exact (wf.obj i (aO.ig rfl (Bb hl))).lt hl h1
theorem live_from {o:cj} (h:o.live) (f:Nat):∃g,o.from_ f=some g:=by cases o <;> simp_all [cj.from_,cj.live]
def O3 (h:aO) (c:lj) (ord:List Nat) (b x:Nat):Prop:=∃i∈ord,∃f,c.wi i=some b∧(h.at i).from_ (c.off i)=some f∧f≤x
def TW (h:aO) (c:lj) (ord:List Nat):YZ:=⟨fun b x=>c.ext b x∨(wX h c b x∧¬O3 h c ord b x)⟩
theorem O3.AP {ord:List Nat} {b x:Nat} (o:O3 h c ord b x):wX h c b x:=by obtain ⟨i,_,f,h1,h2,h3⟩:=o; exact ⟨i,f,h1,h2,h3⟩
theorem TX {ord:List Nat}:∀b x,Mt h c b x→¬TW h c ord b x:=by
  rintro b x hf (he|he)
  · exact hf.2 he
  · exact hf.1 he.1
theorem QA (wf:WF w h c) {ord:List Nat} (J9:ord.Nodup):WF w (h.pick ord) (c.pick ord (TW h c ord)):=by
  refine pick_wf wf J9 TX ?_ ?_
  · rintro b x (he|he)
    · exact wf.sL b x he
    · exact he.1.lt wf
  · rintro b x ho (he|he)
    · exact wf.Cc b x (O3.AP ho) he
    · exact he.2 ho
theorem N5 {ord:List Nat} {cs:List V} {ds:List Value} (r:cT w h c cs ds):cT w (h.pick ord) (c.pick ord (TW h c ord)) (V.Cq (Cl ord) cs) ds :=
  r.sV (TV TX)
theorem gK:∀(l:List (Nat × cj)) (h:aO),(aO.D6 h l).length=h.length
  | [],_=>rfl
  | (i,o)::l,h=>by simp[aO.D6,gK l]
theorem IH {i:Nat}:∀(ord:List Nat) (os:List cj) (h:aO),i∉ord→aO.at (aO.D6 h (ord.zip os)) i=h.at i
  | [],_,_,_=>rfl
  | _::_, [],_,_=>rfl
  | a::ord,o::os,h,hn=>by
    simp only[List.zip_cons_cons,aO.D6]
    rw[IH ord os _ (fun hm=>hn (by simp[hm]))]
    exact dt _ (fun e=>hn (by simp[e]))
theorem QB {i:Nat}:∀(ord:List Nat) (os:List cj) (h:aO) (j:Nat) (o:cj),ord.Nodup→ord[j]? = some i→os[j]? = some o→i<h.length→aO.at (aO.D6 h (ord.zip os)) i=o
  | [],_,_,_,_,_,hj,_,_=>by simp at hj
  | _::_, [],_,_,_,_,_,ho,_=>by simp at ho
  | a::ord,p::os,h,j,o,J9,hj,ho,hi=>by
    simp only[List.zip_cons_cons,aO.D6]
    cases j with
    | zero =>
      simp at hj ho
      subst hj; subst ho
      rw[IH ord os _ (by simpa using (List.nodup_cons.1 J9).1)]
      exact oI _ hi
    | succ j=>exact QB ord os _ j o (List.nodup_cons.1 J9).2 (by simpa using hj) (by simpa using ho) (by simpa using hi)
theorem mn {a b:aO} {i:Nat} (hi:i<a.length):aO.at (a++b) i=aO.at a i:=by simp[aO.at,List.getD,List.getElem?_append_left hi]
theorem kV {a b:aO} {i:Nat} (hi:a.length≤i):aO.at (a++b) i=aO.at b (i - a.length):=by simp[aO.at,List.getD,List.getElem?_append_right hi]
theorem O4 {ord:List Nat} (J9:ord.Nodup) {i j:Nat} (e:ord[j]? = some i):Cl ord i=some j:=by
  obtain ⟨hj,rfl⟩:=List.getElem?_eq_some_iff.1 e
  have hm:ord[j]∈ord:=List.getElem_mem hj
  have kY:ord.idxOf ord[j]<ord.length:=List.idxOf_lt_length_of_mem hm
  unfold Cl
  simp only[kY,if_true]
  have hg:=List.getElem_idxOf kY
  have hp:=List.pairwise_iff_getElem.1 J9
  rcases Nat.lt_trichotomy (ord.idxOf ord[j]) j with hl|he|hl
  · exact (hp _ _ kY hj hl hg).elim
  · rw[he]
  · exact (hp _ _ hj kY hl hg.symm).elim
theorem Cw {ord:List Nat} {i:Nat} (h:i∉ord):Cl ord i=none:=by
  cases e:Cl ord i with
  | none=>rfl
  | some j=>exact (h (List.mem_of_getElem? (FP e))).elim
def lj.back (c:lj) (ord:List Nat) (n:Nat) (c':lj):lj :=
  ⟨fun i=>match Cl ord i with|some j=>c'.wi j|none=>if i<n then c.wi i else c'.wi (i - n+ord.length),
   fun i=>match Cl ord i with|some j=>c'.off j|none=>if i<n then c.off i else c'.off (i - n+ord.length),c.ext⟩
theorem GH {ord:List Nat} (J9:ord.Nodup) (kY:∀i∈ord,i<h.length) (hle:ord.length≤h'.length) (i:Nat) :
    (∃j,si ord h.length j=i∧j<h'.length∧aO.at (h.back ord h') i=(h'.at j).sV (fun j=>some (si ord h.length j))∧(c.back ord h.length c').wi i=c'.wi j∧(c.back ord h.length c').off i=c'.off j) ∨
    (i∉ord∧i<h.length∧aO.at (h.back ord h') i=h.at i∧(c.back ord h.length c').wi i=c.wi i∧(c.back ord h.length c').off i=c.off i) ∨
    ((h.back ord h').length≤i∧aO.at (h.back ord h') i = .dead):=by
  have hlen:(h.back ord h').length=h.length+(h'.length - ord.length):=by simp[aO.back,gK]
  by_cases hm:i∈ord
  · obtain ⟨j,hj,e⟩:=List.mem_iff_getElem.1 hm
    have e':ord[j]? = some i:=by rw[List.getElem?_eq_getElem hj,e]
    have hi:=kY i hm
    refine .inl ⟨j,by simp[si,hj,List.getD,e],by omega,?_,by simp[lj.back,O4 J9 e'],by simp[lj.back,O4 J9 e']⟩
    unfold aO.back
    simp only
    rw[mn (by rw[gK]; exact hi)]
    refine QB ord _ h j _ J9 e' ?_ hi
    have Wh:j<h'.length:=by omega
    simp[hj,aO.at,List.getD,List.getElem?_eq_getElem Wh]
  · by_cases hi:i<h.length
    · refine .inr (.inl ⟨hm,hi,?_,by simp[lj.back,Cw hm,hi],by simp[lj.back,Cw hm,hi]⟩)
      unfold aO.back
      simp only
      rw[mn (by rw[gK]; exact hi)]
      exact IH ord _ h hm
    · by_cases hb:i<(h.back ord h').length
      · rw[hlen]at hb
        refine .inl ⟨i - h.length+ord.length,?_,by omega,?_,by simp[lj.back,Cw hm,hi],by simp[lj.back,Cw hm,hi]⟩
        · have:¬(i - h.length+ord.length<ord.length):=by omega
          simp only[si,this,if_false]
          omega
        · unfold aO.back
          simp only
          rw[kV (by rw[gK]; omega),gK]
          have uR:i - h.length+ord.length<h'.length:=by omega
          have hq:ord.length+(i - h.length)=i - h.length+ord.length:=by omega
          simp[aO.at,List.getD,hq,List.getElem?_eq_getElem uR]
      · refine .inr (.inr ⟨by omega,?_⟩)
        simp[aO.at,List.getD,List.getElem?_eq_none (Nat.le_of_not_lt hb)]
theorem S2 {ord:List Nat} (J9:ord.Nodup) (kY:∀i∈ord,i<h.length) (hle:ord.length≤h'.length) (j:Nat) :
    aO.at (h.back ord h') (si ord h.length j)=(h'.at j).sV (fun j=>some (si ord h.length j))∧(c.back ord h.length c').wi (si ord h.length j)=c'.wi j∧(c.back ord h.length c').off (si ord h.length j)=c'.off j:=by
  have hlen:(h.back ord h').length=h.length+(h'.length - ord.length):=by simp[aO.back,gK]
  by_cases hj:j<ord.length
  · have hb:si ord h.length j=ord[j]:=by simp[si,hj,List.getD]
    have e':ord[j]? = some ord[j]:=List.getElem?_eq_getElem hj
    have hi:=kY _ (List.getElem_mem hj)
    rw[hb]
    refine ⟨?_,by simp[lj.back,O4 J9 e'],by simp[lj.back,O4 J9 e']⟩
    unfold aO.back
    simp only
    rw[mn (by rw[gK]; exact hi)]
    refine QB ord _ h j _ J9 e' ?_ hi
    have Wh:j<h'.length:=by omega
    simp[hj,aO.at,List.getD,List.getElem?_eq_getElem Wh]
  · have hb:si ord h.length j=h.length+(j - ord.length):=by simp[si,hj]
    have hm:h.length+(j - ord.length)∉ord:=fun hm=>by have:=kY _ hm; omega
    have hn:¬(h.length+(j - ord.length)<h.length):=by omega
    have hs:h.length+(j - ord.length) - h.length+ord.length=j:=by omega
    rw[hb]
    refine ⟨?_,by simp only[lj.back,Cw hm,hn,if_false,hs],by simp only[lj.back,Cw hm,hn,if_false,hs]⟩
    unfold aO.back
    simp only
    rw[kV (by rw[gK]; omega),gK]
    have hq:h.length+(j - ord.length) - h.length=j - ord.length:=by omega
    have hq2:ord.length+(j - ord.length)=j:=by omega
    rw[hq]
    by_cases Wh:j<h'.length
    · simp[aO.at,List.getD,hq2,List.getElem?_eq_getElem Wh]
    · simp[aO.at,List.getD,hq2,List.getElem?_eq_none (Nat.le_of_not_lt Wh),cj.sV]
theorem ren_sim_l {ρ:Nat→Option Nat} {o o':cj}:(o.sV ρ).jz o'↔o.jz o':=by cases o <;> cases o' <;> simp[cj.sV,cj.jz,yI]
theorem Wp {ρ:Nat→Option Nat} {o o':cj}:o.jz (o'.sV ρ)↔o.jz o':=by cases o <;> cases o' <;> simp[cj.sV,cj.jz,yI]
theorem HS {o:cj} (h:o.live) (hm:∀K T l,o ≠ .zE K T l∨True):o.jz o:=by cases o <;> simp_all [cj.jz,cj.live]
theorem Wq (wf:WF w h c) {ord:List Nat} (J9:ord.Nodup) (hu:∀i∈ord,Used h i) (wf':WF w' h' c') (x:Ext w (h.pick ord) (c.pick ord (TW h c ord)) w' h' c') :
    WF w' (h.back ord h') (c.back ord h.length c')∧Ext w h c w' (h.back ord h') (c.back ord h.length c')∧Wo (fun j=>some (si ord h.length j)) h' c' (h.back ord h') (c.back ord h.length c'):=by
  have kY:∀i∈ord,i<h.length:=fun i hi=>(hu i hi).1
  have hup:∀j,j<ord.length→Used (h.pick ord) j:=fun j hj=>by
    refine ⟨by simpa [aO.pick]using hj,?_⟩
    rw[zt,List.getElem?_eq_getElem hj]
    simp only[ne_eq,HP]
    exact (hu _ (List.getElem_mem hj)).2
  have hle:ord.length≤h'.length:=by
    rcases Nat.eq_zero_or_pos ord.length with h0|h0
    · omega
    · have:=(x.used _ (hup (ord.length - 1) (by omega))).1; omega
  have hlen:(h.back ord h').length=h.length+(h'.length - ord.length):=by simp[aO.back,gK]
  -- who owns a cell
  have OZ:∀b y,wX (h.back ord h') (c.back ord h.length c') b y→wX h' c' b y∨∃i f,i∉ord∧i<h.length∧c.wi i=some b∧(h.at i).from_ (c.off i)=some f∧f≤y:=by
    rintro b y ⟨i,f,h1,h2,h3⟩
    rcases GH (c:=c) (c':=c') J9 kY hle i with ⟨j,_,_,g1,g2,g3⟩|⟨g0,g1,g2,g3,g4⟩|⟨_,g1⟩
    · rw[g2]at h1; rw[g1,g3,Zw]at h2
      exact .inl ⟨j,f,h1,h2,h3⟩
    · rw[g3]at h1; rw[g2,g4]at h2
      exact .inr ⟨i,f,g0,g1,h1,h2,h3⟩
    · rw[g1]at h2; cases h2
  have hown':∀i f b y,i∉ord→c.wi i=some b→(h.at i).from_ (c.off i)=some f→f≤y→TW h c ord b y:=by
    intro i f b y hi h1 h2 h3
    refine .inr ⟨⟨i,f,h1,h2,h3⟩,?_⟩
    rintro ⟨i2,hm,f2,g1,g2,g3⟩
    have:=wf.inj i i2 b (vi h2) (vi g2) h1 g1
    subst this
    exact hi hm
  have Zx:∀b y,wX (h.pick ord) (c.pick ord (TW h c ord)) b y→O3 h c ord b y:=fun b y ho=>HR ho
  have hext:c'.ext=TW h c ord:=x.ext
  have hren:Wo (fun j=>some (si ord h.length j)) h' c' (h.back ord h') (c.back ord h.length c'):=by
    refine ⟨fun i j e hi => ?_,fun i j e hd => ?_,fun i j e ht => ?_,fun i j e T l ht => ?_,fun b y hf=>⟨fun ho => ?_,fun he => ?_⟩⟩
    · cases e
      obtain ⟨g1,_,_⟩:=S2 (c:=c) (c':=c') J9 kY hle i
      refine ⟨?_,by rw[g1]; simp only[ne_eq,HP]; exact hi.2⟩
      rw[hlen]
      unfold si
      have:=hi.1
      split
      · rename_i hj
        have:=kY _ (List.getElem_mem hj)
        simp only[List.getD,List.getElem?_eq_getElem hj,Option.getD_some]
        omega
      · omega
    · cases e
      obtain ⟨g1,g2,g3⟩:=S2 (c:=c) (c':=c') J9 kY hle i
      rw[g1]at hd
      simp only[ne_eq,O2]at hd
      exact ⟨hd,g2,g3⟩
    · cases e
      rw[(S2 (c:=c) (c':=c') J9 kY hle i).1]at ht
      exact ren_tok.1 ht
    · cases e
      rw[(S2 (c:=c) (c':=c') J9 kY hle i).1]at ht
      exact ren_row.1 ht
    · rcases OZ b y ho with ho|⟨i,f,g0,_,g2,g3,g4⟩
      · exact hf.1 ho
      · exact hf.2 (by rw[hext]; exact hown' i f b y g0 g2 g3 g4)
    · exact hf.2 (by rw[hext]; exact .inl he)
  have hx:Ext w h c w' (h.back ord h') (c.back ord h.length c'):=by
    refine ⟨x.os,x.tape,x.output,x.size,fun i hi => ?_,fun i hi hd => ?_,fun b y hb ho=>x.cell b y hb (fun o=>ho (Zx b y o).AP),fun b hb ho=>x.block b hb (fun y o=>ho y (Zx b y o).AP),fun b y hb ho => ?_,rfl,x.arr⟩
    · rcases GH (c:=c) (c':=c') J9 kY hle i with ⟨j,g0,gj,g1,g2,g3⟩|⟨g0,g1,g2,g3,g4⟩|⟨g0,_⟩
      · refine ⟨by have:=hi.1; omega,?_⟩
        rw[g1]; simp only[ne_eq,HP]
        have hjo:j<ord.length:=by
          unfold si at g0
          split at g0
          · assumption
          · have:=hi.1; omega
        exact (x.used j (hup j hjo)).2
      · exact ⟨by omega,by rw[g2]; exact hi.2⟩
      · have:=hi.1; omega
    · rcases GH (c:=c) (c':=c') J9 kY hle i with ⟨j,g0,gj,g1,g2,g3⟩|⟨g0,g1,g2,g3,g4⟩|⟨g0,_⟩
      · have hjo:j<ord.length:=by
          unfold si at g0
          split at g0
          · assumption
          · have:=hi.1; omega
        have e:ord[j]? = some i:=by
          simp only[si,hjo,if_true,List.getD,List.getElem?_eq_getElem hjo,Option.getD_some]at g0
          rw[List.getElem?_eq_getElem hjo,g0]
        rw[g1]at hd ⊢
        simp only[ne_eq,O2]at hd
        obtain ⟨s1,s2,s3⟩:=x.same j (hup j hjo) hd
        rw[zt,e]at s1
        rw[g2,g3,s2,s3]
        exact ⟨Wp.2 (ren_sim_l.1 s1),by simp[lj.pick,e],by simp[lj.pick,List.getD,e]⟩
      · rw[g2]at hd ⊢
        exact ⟨HS (Me hi.2 hd) (fun _ _ _ => .inr trivial),g3,g4⟩
      · have:=hi.1; omega
    · rcases OZ b y ho with ho|⟨i,f,g0,_,g2,g3,g4⟩
      · exact (Zx b y (x.AP b y hb ho)).AP
      · exact ⟨i,f,g2,g3,g4⟩
  refine ⟨⟨fun b y ho he => ?_,fun b y he=>Nat.lt_of_lt_of_le (wf.sL b y he) x.size,fun i hi => ?_,fun i j b hi hj h1 h2 => ?_,wf.vF hx⟩,hx,hren⟩
  · rcases OZ b y ho with ho|⟨i,f,g0,_,g2,g3,g4⟩
    · exact wf'.Cc b y ho (by rw[hext]; exact .inl he)
    · exact wf.Cc b y ⟨i,f,g2,g3,g4⟩ he
  · rcases GH (c:=c) (c':=c') J9 kY hle i with ⟨j,g0,gj,g1,g2,g3⟩|⟨g0,g1,g2,g3,g4⟩|⟨_,g0⟩
    · rw[g1]
      exact (wf'.obj j gj).sV hren g2 g3
    · rw[g2]
      by_cases hl:(h.at i).live
      · refine (wf.obj i g1).zC hx (fun b hb=>x.block b ((wf.obj i g1).lt hl hb) fun y o => ?_) g3 g4
        obtain ⟨i2,hm,f2,k1,k2,_⟩:=Zx b y o
        have:=wf.inj i i2 b hl (vi k2) hb k1
        subst this
        exact g0 hm
      · have h0:h.at i = .free∨h.at i = .dead:=by revert hl; cases h.at i <;> simp[cj.live]
        rcases h0 with h0|h0 <;> rw[h0] <;> trivial
    · rw[g0]; trivial
  · have key:∀i j b,i∉ord→(h.at i).live→c.wi i=some b→(h'.at j).live→c'.wi j=some b→False:=by
      intro i j b hi hl hb hl' uR
      have XF:=(wf.obj i (aO.ig rfl (Bb hl))).lt hl hb
      obtain ⟨f,hf⟩:=live_from hl' (c'.off j)
      obtain ⟨i2,hm,f2,k1,k2,_⟩:=Zx b f (x.AP b f XF ⟨j,f,uR,hf,Nat.le_refl _⟩)
      have:=wf.inj i i2 b hl (vi k2) hb k1
      subst this
      exact hi hm
    rcases GH (c:=c) (c':=c') J9 kY hle i with ⟨i',a0,_,a1,a2,a3⟩|⟨a0,a1,a2,a3,a4⟩|⟨_,a0⟩
    · rcases GH (c:=c) (c':=c') J9 kY hle j with ⟨j',b0,_,b1,b2,b3⟩|⟨b0,b1,b2,b3,b4⟩|⟨_,b0⟩
      · rw[a1,HQ]at hi; rw[b1,HQ]at hj
        rw[a2]at h1; rw[b2]at h2
        rw[←a0,←b0,wf'.inj i' j' b hi hj h1 h2]
      · rw[a1,HQ]at hi; rw[b2]at hj
        rw[a2]at h1; rw[b3]at h2
        exact (key j i' b b0 hj h2 hi h1).elim
      · rw[b0]at hj; exact hj.elim
    · rcases GH (c:=c) (c':=c') J9 kY hle j with ⟨j',b0,_,b1,b2,b3⟩|⟨b0,b1,b2,b3,b4⟩|⟨_,b0⟩
      · rw[a2]at hi; rw[b1,HQ]at hj
        rw[a3]at h1; rw[b2]at h2
        exact (key i j' b a0 hi h1 hj h2).elim
      · rw[a2]at hi; rw[b2]at hj
        rw[a3]at h1; rw[b3]at h2
        exact wf.inj i j b hi hj h1 h2
      · rw[b0]at hj; exact hj.elim
    · rw[a0]at hi; exact hi.elim
end
section
variable {tt:eF} {h:aO} {R:Type}
theorem Fy {t off:Nat} {cs:List V} {k0:V→Option R} {r:R} (hk:vC tt t cs off k0=some r) :
  ∃v,k0 v=some r∧∀k:V→Option R,vC tt t cs off k=k v:=by
 unfold vC at hk
 split at hk
 ·rename_i vD
  split at hk
  ·rename_i Tw
   split at hk
   ·rename_i tT
    exact ⟨_,hk,fun k=>by simp[vC,vD,Tw,tT]⟩
   ·cases hk
  ·rename_i Tw
   split at hk
   ·rename_i v hv
    exact ⟨_,hk,fun k=>by simp[vC,vD,Tw,hv]⟩
   ·cases hk
 ·cases hk
theorem O5 {op:BinOp} {x y:V} {k0:V→Option R} {r:R} (hk:Cb op x y k0=some r) :
  ∃v,k0 v=some r∧∀k:V→Option R,Cb op x y k=k v:=by
 unfold Cb at hk
 split at hk
 ·obtain ⟨hb,hk⟩:=cD hk
  exact ⟨_,hk,fun k=>by simp[Cb,cu,hb]⟩
 ·obtain ⟨hb,hk⟩:=cD hk
  exact ⟨_,hk,fun k=>by simp[Cb,cu,hb]⟩
 ·split at hk
  ·rename_i Ba
   subst Ba
   split at hk <;> first
    | (exact ⟨_,hk,fun k=>by simp[Cb]⟩)
    | (obtain ⟨hb,hk⟩:=cD hk; exact ⟨_,hk,fun k=>by simp only[Cb,hb,cu,cond_true,if_true]⟩)
    | cases hk
  ·cases hk
 ·split at hk <;> first
    | (exact ⟨_,hk,fun k=>by simp[Cb]⟩)
    | (obtain ⟨hb,hk⟩:=cD hk; exact ⟨_,hk,fun k=>by simp only[Cb,hb,cu,cond_true]⟩)
    | cases hk
 ·split at hk
  ·exact ⟨_,hk,fun k=>by simp[Cb, *]⟩
  ·cases hk
 ·split at hk
  ·exact ⟨_,hk,fun k=>by simp[Cb, *]⟩
  ·cases hk
 ·cases hk
theorem ptrK_nat {op:BinOp} {x y:V} {k0:V→Option R} {r:R} (hk:Xs op x y k0=some r) :
  ∃v,k0 v=some r∧∀k:V→Option R,Xs op x y k=k v:=by
 unfold Xs at hk
 split at hk
 ·split at hk
  ·exact ⟨_,hk,fun k=>by simp[Xs, *]⟩
  ·exact ⟨_,hk,fun k=>by simp[Xs, *]⟩
  ·cases hk
 ·cases hk
theorem ifK_nat {op:BinOp} {o:Operand} {x y:V} {k0:V→Option R} {r:R} (hk:ifK op o x y k0=some r) :
  ∃v,k0 v=some r∧∀k:V→Option R,ifK op o x y k=k v:=by
 unfold ifK at hk
 split at hk <;> first|(exact ⟨_,hk,fun k=>by simp[ifK]⟩)|cases hk
theorem Wr {a:V} {neg:Bool} {k0:V→Option R} {r:R} (hk:JR a (fun r=>k0 (To neg r))=some r) :
  ∃v,k0 v=some r∧∀k:V→Option R,JR a (fun r=>k (To neg r))=k v:=by
 unfold JR at hk
 split at hk <;> try cases hk
 ·exact ⟨_,hk,fun k=>by simp[JR]⟩
 ·rename_i l _
  cases hl:l.isEmpty with
  | true=>rw[hl]at hk; exact ⟨_,hk,fun k=>by simp only[JR,hl]; rfl⟩
  | false=>rw[hl]at hk; exact ⟨_,hk,fun k=>by simp only[JR,hl]; rfl⟩
 ·rename_i n
  cases hl:decide (n=0)with
  | true=>rw[hl]at hk; exact ⟨_,hk,fun k=>by simp only[JR,hl]; rfl⟩
  | false=>rw[hl]at hk; exact ⟨_,hk,fun k=>by simp only[JR,hl]; rfl⟩
theorem slK_nat {op:BinOp} {x y:V} {k0:V→Option R} {r:R} (hk:slK op x y k0=some r) :
  ∃v,k0 v=some r∧∀k:V→Option R,slK op x y k=k v:=by
 unfold slK at hk
 split at hk
 ·split at hk
  ·obtain ⟨v,h1,h2⟩:=Wr hk
   exact ⟨v,h1,fun k=>by simp[slK,h2]⟩
  ·obtain ⟨v,h1,h2⟩:=Wr hk
   exact ⟨v,h1,fun k=>by simp[slK,h2]⟩
  ·cases hk
 ·cases hk
theorem HT {v:Option V} {d:Int} {k0:Int→Option R} {r:R} (hk:K3 v d k0=some r) :
  ∃n,k0 n=some r∧∀k:Int→Option R,K3 v d k=k n:=by
 unfold K3 at hk
 split at hk
 ·exact ⟨_,hk,fun k=>rfl⟩
 ·exact ⟨_,hk,fun k=>rfl⟩
 ·cases hk
theorem opP_nat {o:Op} {ρ:Operand→V} {k0:V→Option R} {r:R} (hk:opP tt o ρ k0=some r) :
  ∃v,k0 v=some r∧∀k:V→Option R,opP tt o ρ k=k v:=by
 cases o <;> simp only[opP]at hk ⊢ <;> try (first|cases hk)
 case move x=>exact ⟨_,hk,fun k=>rfl⟩
 case assign x=>exact ⟨_,hk,fun k=>rfl⟩
 case pick c a b =>
  split at hk
  ·rename_i t ht
   split at hk
   ·rename_i u v hu hv
    exact ⟨_,hk,fun k=>by simp[ht,hu,hv]⟩
   ·rename_i u v hn
    refine ⟨bif t then ρ a else ρ b,by cases t <;> exact hk,fun k => ?_⟩
    cases t <;> rfl
  ·cases hk
 case nilCheck x =>
  split at hk <;> first|(exact ⟨_,hk,fun k=>by simp[*]⟩)|cases hk
 case binOp op t x y _ =>
  split at hk
  ·split at hk
   ·obtain ⟨v,h1,h2⟩:=O5 hk
    exact ⟨v,h1,fun k=>by simp[*]⟩
   ·cases hk
  ·split at hk
   ·obtain ⟨v,h1,h2⟩:=O5 hk
    exact ⟨v,h1,fun k=>by simp[*]⟩
   ·cases hk
  ·obtain ⟨v,h1,h2⟩:=O5 hk
   exact ⟨v,h1,fun k=>by simp[*]⟩
  ·obtain ⟨v,h1,h2⟩:=O5 hk
   exact ⟨v,h1,fun k=>by simp[*]⟩
  ·rename_i n1 n2 n3 n4
   split at hk
   ·rename_i hd
    obtain ⟨v,h1,h2⟩:=ptrK_nat hk
    exact ⟨v,h1,fun k=>by simp[*]⟩
   ·rename_i hd
    obtain ⟨v,h1,h2⟩:=slK_nat hk
    exact ⟨v,h1,fun k=>by simp[*]⟩
   ·rename_i hd
    obtain ⟨v,h1,h2⟩:=ifK_nat hk
    exact ⟨v,h1,fun k=>by simp[*]⟩
   ·cases hk
 case unOp op _ x =>
  split at hk <;> first|(exact ⟨_,hk,fun k=>by simp[*]⟩)|cases hk
 case makeInterface t x =>
  split at hk <;> first|(exact ⟨_,hk,fun k=>by simp[*]⟩)|cases hk
 case convert s d x =>
  split at hk
  ·cases hk
  ·split at hk
   ·exact ⟨_,hk,fun k=>by simp[*]⟩
   ·split at hk
    ·exact ⟨_,hk,fun k=>by simp[*]⟩
    ·cases hk
   ·cases hk
 case fieldAddr s x f =>
  split at hk <;> try (first|cases hk)
  split at hk <;> try (first|cases hk)
  split at hk <;> try (first|cases hk)
  split at hk <;> first|(exact ⟨_,hk,fun k=>by simp_all⟩)|cases hk
 case field s x f =>
  split at hk <;> try (first|cases hk)
  split at hk <;> try (first|cases hk)
  obtain ⟨v,h1,h2⟩:=Fy hk
  exact ⟨v,h1,fun k=>by simp[*]⟩
 case indexAddr t x i =>
  unfold idxOf at hk ⊢
  split at hk <;> try (first|cases hk)
  split at hk <;> try (first|cases hk)
  ·split at hk <;> try (first|cases hk)
   obtain ⟨hb,hk⟩:=cD hk
   exact ⟨_,hk,fun k=>by simp_all [cu]⟩
  ·split at hk <;> try (first|cases hk)
   obtain ⟨hb,hk⟩:=cD hk
   exact ⟨_,hk,fun k=>by simp_all [cu]⟩
  ·split at hk <;> try (first|cases hk)
   obtain ⟨hb,hk⟩:=cD hk
   exact ⟨_,hk,fun k=>by simp_all [cu]⟩
  ·split at hk <;> try (first|cases hk)
   rename_i hc
   obtain ⟨hb,hk⟩:=cD hk
   exact ⟨_,hk,fun k=>by simp only[*,if_true,cu,cond_true]⟩
 case index t x i =>
  unfold idxOf at hk ⊢
  split at hk <;> try (first|cases hk)
  split at hk <;> try (first|cases hk)
  ·obtain ⟨hb,hk⟩:=cD hk
   exact ⟨_,hk,fun k=>by simp_all [cu]⟩
  ·obtain ⟨hb,hk⟩:=cD hk
   obtain ⟨v,h1,h2⟩:=Fy hk
   exact ⟨v,h1,fun k=>by simp_all [cu]⟩
 case slice t x lo hi mx =>
  split at hk <;> try (first|cases hk)
  split at hk <;> try (first|cases hk)
  ·rename_i hd hx
   obtain ⟨n,hk,e1⟩:=HT hk
   obtain ⟨m,hk,e2⟩:=HT hk
   obtain ⟨hb,hk⟩:=cD hk
   obtain ⟨hb2,hk⟩:=cD hk
   exact ⟨_,hk,fun k=>by simp only[hd,hx,e1,e2,hb,hb2,cu,cond_true]⟩
  ·rename_i hd hx
   split at hk <;> try (first|cases hk)
   rename_i hc
   obtain ⟨n,hk,e1⟩:=HT hk
   split at hk
   ·obtain ⟨hb,hk⟩:=cD hk
    exact ⟨_,hk,fun k=>by simp only[hd,hx,hc,e1,hb,cu,cond_true,if_true]⟩
   ·obtain ⟨m,hk,e2⟩:=HT hk
    obtain ⟨hb,hk⟩:=cD hk
    obtain ⟨hb2,hk⟩:=cD hk
    exact ⟨_,hk,fun k=>by simp only[hd,hx,hc,e1,e2,hb,hb2,cu,cond_true,if_true]⟩
  ·rename_i hd hx
   split at hk <;> try (first|cases hk)
   rename_i hc
   obtain ⟨n,hk,e1⟩:=HT hk
   obtain ⟨m,hk,e2⟩:=HT hk
   obtain ⟨hb,hk⟩:=cD hk
   exact ⟨_,hk,fun k=>by rw[if_neg hc]; simp only[e1,e2,hb,cu,cond_true]⟩
 case makeFunc f first cap =>
  cases f <;> simp only at hk ⊢ <;> first|(exact ⟨_,hk,fun k=>rfl⟩)|cases hk
 case extract t i =>
  split at hk <;> try (first|cases hk)
  split at hk <;> try (first|cases hk)
  exact ⟨_,hk,fun k=>by simp[*]⟩
 case build t parts =>
  split at hk <;> try (first|cases hk)
  all_goals
   rename_i hd
   split at hk <;> try (first|cases hk)
   rename_i hc
   split at hk <;> try (first|cases hk)
   rename_i hf
   exact ⟨_,hk,fun k=>by rw[if_neg hc]⟩
 case call c =>
  split at hk <;> try (first|cases hk)
  ·split at hk <;> try (first|cases hk)
   split at hk <;> try (first|cases hk)
   all_goals exact ⟨_,hk,fun k=>by simp[*]⟩
  ·split at hk <;> try (first|cases hk)
   split at hk <;> try (first|cases hk)
   exact ⟨_,hk,fun k=>by simp[*]⟩
  ·split at hk <;> try (first|cases hk)
   split at hk <;> try (first|cases hk)
   exact ⟨_,hk,fun k=>by simp[*]⟩
def cj.rd:cj→cj
 | .tok | .dead => .free
 | ob=>ob
theorem Zy {a b:cj} (h:a.rd=b.rd):a=b∨((a = .tok∨a = .dead∨a = .free)∧(b = .tok∨b = .dead∨b = .free)):=by
 cases a <;> cases b <;> simp[cj.rd]at h ⊢ <;> exact h
theorem rd_cells {a b:cj} (h:a.rd=b.rd) {cs:List V} (hb:b = .cells cs):a = .cells cs:=by
 rcases Zy h with h|⟨_,h⟩
 ·rw[h,hb]
 ·rw[hb]at h; simp at h
theorem rd_bld {a b:cj} (h:a.rd=b.rd) {v:V} (hb:b = .oG v):a = .oG v:=by
 rcases Zy h with h|⟨_,h⟩
 ·rw[h,hb]
 ·rw[hb]at h; simp at h
theorem rd_row {a b:cj} (h:a.rd=b.rd) {T:Ty} {l:List T.den} (hb:b = .row T l):a = .row T l:=by
 rcases Zy h with h|⟨_,h⟩
 ·rw[h,hb]
 ·rw[hb]at h; simp at h
theorem rd_amap {a b:cj} (h:a.rd=b.rd) {K T:Ty} {l:List (K.den × T.den)} (hb:b = .zE K T l):a = .zE K T l:=by
 rcases Zy h with h|⟨_,h⟩
 ·rw[h,hb]
 ·rw[hb]at h; simp at h
theorem opR_nat {o:Op} {ρ:Operand→V} {lim:Option Nat} {k0:V→Option R} {r:R} (hk:opR tt o ρ h lim k0=some r) :
  ∃v,k0 v=some r∧∀(h2:aO),(∀i,JS lim i=true→(h2.at i).rd=(h.at i).rd)→∀k:V→Option R,opR tt o ρ h2 lim k=k v:=by
 cases o <;> simp only[opR]at hk ⊢ <;> try (first|cases hk)
 case load t x =>
  split at hk <;> try (first|cases hk)
  ·split at hk <;> try (first|cases hk)
   rename_i hl
   split at hk <;> try (first|cases hk)
   all_goals rename_i hc
   ·obtain ⟨v,h1,h2⟩:=Fy hk
    exact ⟨v,h1,fun hh e k=>by have e':=rd_cells (e _ hl) hc; clear e; simp only[*,if_true]⟩
   ·obtain ⟨v,h1,h2⟩:=Fy hk
    exact ⟨v,h1,fun hh e k=>by have e':=rd_bld (e _ hl) hc; clear e; simp only[*,if_true]⟩
  ·obtain ⟨v,h1,h2⟩:=Fy hk
   exact ⟨v,h1,fun hh e k=>by simp only[*]⟩
  ·split at hk <;> try (first|cases hk)
   rename_i hl
   split at hk <;> try (first|cases hk)
   rename_i T l hc
   split at hk <;> try (first|cases hk)
   rename_i hs
   obtain ⟨hb,hk⟩:=cD hk
   obtain ⟨v,h1,h2⟩:=Fy hk
   exact ⟨v,h1,fun hh e k=>by have e':=rd_row (e _ hl) hc; clear e; simp only[*,if_true,cu,cond_true]⟩
 case lookup t x ix ok =>
  split at hk <;> try (first|cases hk)
  rename_i kt vt i h1 h2
  split at hk <;> try (first|cases hk)
  rename_i hl
  split at hk <;> try (first|cases hk)
  rename_i K T l hc
  split at hk <;> try (first|cases hk)
  rename_i hf
  split at hk <;> try (first|cases hk)
  rename_i kx hx
  refine ⟨bif ok then .tuple [Vr T (sf K T kx l), .bool (Iw K T kx l)]else Vr T (sf K T kx l),by cases ok <;> exact hk,fun hh e k => ?_⟩
  have e':=rd_amap (e _ hl) hc
  clear e
  simp only[h1,h2,hl,e',hf,hx,if_true]
  cases ok <;> rfl
 case convert s d x =>
  split at hk <;> try (first|cases hk)
  ·rename_i e i n h1 h2 h3
   split at hk <;> try (first|cases hk)
   rename_i hl
   split at hk <;> try (first|cases hk)
   rename_i h4 h5
   exact ⟨_,hk,fun hh e k=>by have e':=rd_row (e _ hl) h5; clear e; simp only[*,if_true]⟩
  ·rename_i h1 h2 h3
   split at hk <;> try (first|cases hk)
   ·rename_i h4
    exact ⟨_,hk,fun hh e k=>by simp only[*]⟩
   ·rename_i h4
    obtain ⟨hb,hk⟩:=cD hk
    exact ⟨_,hk,fun hh e k=>by simp only[*,cu,cond_true]⟩
  ·rename_i h1 h2 h3
   split at hk <;> try (first|cases hk)
   rename_i h4
   exact ⟨_,hk,fun hh e k=>by simp only[*]⟩
theorem opA_nat {o:Op} {ρ:Operand→V} {k0:cj→(Nat→V)→Option R} {r:R} (hk:opA tt o ρ k0=some r) :
  ∃ob mk,k0 ob mk=some r∧∀k:cj→(Nat→V)→Option R,opA tt o ρ k=k ob mk:=by
 cases o <;> simp only[opA]at hk ⊢ <;> try (first|cases hk)
 case alloc t =>
  split at hk
  ·exact ⟨_,_,hk,fun k=>by simp[*]⟩
  ·split at hk <;> try (first|cases hk)
   exact ⟨_,_,hk,fun k=>by simp[*]⟩
 case box t x =>
  split at hk <;> try (first|cases hk)
  split at hk <;> try (first|cases hk)
  exact ⟨_,_,hk,fun k=>by simp only[*,if_true]⟩
 case buildSlice t len parts =>
  split at hk <;> try (first|cases hk)
  split at hk <;> try (first|cases hk)
  rename_i hc
  split at hk <;> try (first|cases hk)
  ·rename_i h1 h2
   split at hk <;> try (first|cases hk)
   rename_i h3
   split at hk
   ·exact ⟨_,_,hk,fun k=>by simp only[*,if_true,if_false]; rfl⟩
   split at hk
   ·exact ⟨_,_,hk,fun k=>by simp only[*,if_true,if_false]; rfl⟩
   ·exact ⟨_,_,hk,fun k=>by simp only[*,if_true,if_false]; rfl⟩
  ·exact ⟨_,_,hk,fun k=>by simp only[*,if_true,if_false]; rfl⟩
 case makeSlice t n c =>
  split at hk <;> try (first|cases hk)
  split at hk <;> try (first|cases hk)
  split at hk <;> try (first|cases hk)
  split at hk <;> try (first|cases hk)
  rename_i h3
  obtain ⟨hb,hk⟩:=cD hk
  exact ⟨_,_,hk,fun k=>by simp only[*,if_true,cu,cond_true]⟩
 case convert s d x =>
  split at hk <;> try (first|cases hk)
  split at hk <;> try (first|cases hk)
  exact ⟨_,_,hk,fun k=>by simp[*]⟩
 case range t x =>
  split at hk <;> try (first|cases hk)
  exact ⟨_,_,hk,fun k=>by simp[*]⟩
 case makeMap t rsv =>
  split at hk <;> try (first|cases hk)
  rename_i h1
  split at hk <;> try (first|cases hk)
  rename_i kt vt h2
  split at hk <;> try (first|cases hk)
  rename_i K V' h3 h4
  split at hk <;> try (first|cases hk)
  rename_i h5
  exact ⟨_,_,hk,fun k=>by simp only[h1,h2,h3,h4,h5,if_true]⟩
theorem mapF {β:Type} {ρ ρ':Operand→V} (f:Nat→V→β) (ps:List (Nat × Operand)) (h:∀x∈ps.map (·.2),ρ x=ρ' x) :
  (ps.map fun (i,x)=>f i (ρ x))=(ps.map fun (i,x)=>f i (ρ' x)) :=
 List.map_congr_left fun p hm=>by
  obtain ⟨i,x⟩:=p
  simp only[h x (List.mem_map.2 ⟨(i,x),hm,rfl⟩)]
theorem Ws {o:Op} {ρ ρ':Operand→V} (h:∀x∈o.operands,ρ x=ρ' x) {k:V→Option R}:opP tt o ρ k=opP tt o ρ' k:=by
 cases o <;> simp only[Op.operands]at h <;> simp only[opP]
 case build t ps =>
  have hp:∀x∈ps.toList.map (·.2),ρ x=ρ' x:=fun x hx=>h x (by simpa using hx)
  split
  ·rename_i fs hd
   rw[mapF (fun i v=>((fs.getD i (0,0)).1,if i<fs.length then (tt.at (fs.getD i (0,0)).2).size else 1000000,v)) ps.toList hp]
  ·rename_i e hd
   rw[mapF (fun i v=>(i*(tt.at e).size,(tt.at e).size,v)) ps.toList hp]
  ·rfl
 case makeFunc f first cap =>
  cases f <;> simp only
  rw[List.map_congr_left (l:=first.toList) (g:=ρ') fun x hx=>h x (by simp at hx ⊢; exact .inl hx),List.map_congr_left (l:=cap.toList) (g:=ρ') fun x hx=>h x (by simp at hx ⊢; exact .inr hx)]
 case slice t x lo hi mx=>cases lo <;> cases hi <;> cases mx <;> simp_all
 case call c =>
  obtain ⟨callee,args,argTypes⟩:=c
  have ha:∀x∈args.toList,ρ x=ρ' x:=fun x hx=>h x (by simp[Call.operands]at hx ⊢; exact .inr hx)
  simp only
  split
  ·rename_i x e; rw[ha x (by rw[e]; simp)]
  ·rename_i x y e; rw[ha x (by rw[e]; simp),ha y (by rw[e]; simp)]
  ·rename_i x y e; rw[ha x (by rw[e]; simp),ha y (by rw[e]; simp)]
  ·rfl
 all_goals (first|rfl|(simp_all; done))
theorem Wu {o:Op} {ρ ρ':Operand→V} (h':∀x∈o.operands,ρ x=ρ' x) {lim:Option Nat} {k:V→Option R}:opR tt o ρ h lim k=opR tt o ρ' h lim k:=by
 cases o <;> simp only[Op.operands]at h' <;> simp only[opR]
 all_goals (first|rfl|(simp_all; done))
theorem Wv {o:Op} {ρ ρ':Operand→V} (h':∀x∈o.operands,ρ x=ρ' x) {k:cj→(Nat→V)→Option R}:opA tt o ρ k=opA tt o ρ' k:=by
 cases o <;> simp only[Op.operands]at h' <;> simp only[opA]
 case makeMap t rsv =>
  have e:HI ρ rsv=HI ρ' rsv:=by
   cases rsv with
   | none=>rfl
   | some x=>simp only[HI]; rw[h' x (by simp)]
  rw[e]
 case buildSlice t len ps =>
  have hp:∀x∈ps.toList.map (·.2),ρ x=ρ' x:=fun x hx=>h' x (by simpa using hx)
  split
  ·rename_i e hd
   rw[mapF (fun i v=>(i*(tt.at e).size,(tt.at e).size,v)) ps.toList hp]
  ·rfl
 all_goals (first|rfl|(simp_all; done))
theorem Ww {o:Op} {ρ ρ':Operand→V} (h':∀x∈o.operands,ρ x=ρ' x) {id:Nat} {k:V→aO→Option R}:SX tt o ρ h id k=SX tt o ρ' h id k:=by
 cases o <;> simp only[Op.operands]at h' <;> simp only[SX]
 case call c =>
  obtain ⟨callee,args,argTypes⟩:=c
  have ha:∀x∈args.toList,ρ x=ρ' x:=fun x hx=>h' x (by simp[Call.operands]at hx ⊢; exact .inr hx)
  simp only
  split
  ·rename_i x y t xt e et; rw[ha x (by rw[e]; simp),ha y (by rw[e]; simp)]
  ·rfl
 case slice t x lo hi mx=>cases lo <;> cases hi <;> cases mx <;> simp_all
 all_goals (first|rfl|(simp_all; done))
end
section
variable {P:Program} {tt:eF} {w w':World} {h h':aO} {c c':lj} {R:Type}
theorem EZ:∀(l:List Nat) (h:aO),Ext w h c w (qg h l) c
 | [],h => .refl _ _ _
 | i::l,h=>by
  simp only[qg]
  split
  ·exact (FM i).trans (EZ l _)
  ·exact EZ l h
theorem GI:∀(l:List Nat) (h:aO),WF w h c→WF w (qg h l) c
 | [],h,wf=>wf
 | i::l,h,wf=>by
  simp only[qg]
  split
  ·exact GI l _ (S0 wf i)
  ·exact GI l h wf
theorem DI:∀(l:List Nat) (h:aO) (j:Nat),aO.at (qg h l) j=h.at j∨aO.at (qg h l) j = .dead
 | [],h,j => .inl rfl
 | i::l,h,j=>by
  simp only[qg]
  split
  ·rcases DI l (h.set i .dead) j with e|e
   ·rw[e,oy]
    split
    ·exact .inr rfl
    ·exact .inl rfl
   ·exact .inr e
  ·exact DI l h j
theorem K9:∀(l:List Nat) (h:aO) (j:Nat) {T:Ty} {m:List T.den},j∈l→h.at j = .row T m→aO.at (qg h l) j = .dead
 | [],_,_,_,_,hj,_=>by cases hj
 | i::l,h,j,T,m,hj,he=>by
  simp only[qg]
  by_cases Ba:i=j
  ·subst Ba
   split
   ·rcases DI l (h.set i .dead) i with e|e
    ·rw[e]; exact oI _ (aO.ig he (by simp))
    ·exact e
   ·rename_i hn; exact (hn T m he).elim
  ·have Wh:j∈l:=by
    rcases List.mem_cons.1 hj with rfl|h
    ·exact (Ba rfl).elim
    ·exact h
   split
   ·exact K9 l _ j Wh (by rw[dt _ Ba]; exact he)
   ·exact K9 l h j Wh he
theorem O6 (h:aO):∀l:List V,V.Rr h l=l.map (V.shut h)
 | []=>rfl
 | v::l=>by simp only[V.Rr,List.map_cons,O6 h l]
theorem wX.dead {ids:List Nat} {b x:Nat} (ho:wX (qg h ids) c b x):wX h c b x:=by
 obtain ⟨i,f,g1,g2,g3⟩:=ho
 rcases DI ids h i with e|e
 ·exact ⟨i,f,g1,e▸g2,g3⟩
 ·rw[e]at g2; cases g2
theorem shut_rep (wf:WF w h c) {ids:List Nat} {v:V} {d:Value} (r:eG w h c v d):(∀i∈v.ids,i∈ids)→eG w (qg h ids) c (v.shut h) d:=by
 have x:=EZ (w:=w) (c:=c) ids h
 induction r with
 | sl f ni wj hc hr DE oj=>exact fun _=>(eG.sl (t := .no) f ni wj hc hr (by simp) (by simp)).mono x
 | @row i n v hi hn hv =>
  intro TY
  simp only[V.shut]
  split
  ·rename_i T l he
   obtain ⟨A,cap,rfl,hA,hv⟩:=hv
   obtain ⟨Y2,hle,wj,hor⟩:=hv T l he
   obtain ⟨ds,rds,Cn⟩:=XA wf he
   subst Y2
   refine DG (rds.mono x) hle wj (fun hl => ?_) (by simp) (by simp)
   obtain ⟨b,hb,Dr⟩:=Cn hl
   rcases hor with ⟨h1,_⟩|⟨b',arr,e,fz,h1,h2,h3,h4⟩
   ·rw[hb]at h1; cases h1
   ·rw[hb]at h1; cases h1
    refine ⟨b,c.off i,h2,Dr,fun y hy1 hy2 => ?_⟩
    have oj:wX h c b y:=⟨i,0,hb,by rw[he]; rfl,Nat.zero_le _⟩
    refine ⟨fun ho => ?_,wf.Cc b y oj⟩
    obtain ⟨j,f,g1,g2,g3⟩:=ho
    have hdead:=K9 ids h i (TY i (by simp[V.ids])) he
    rcases DI ids h j with e'|e'
    ·have hlj:(h.at j).live:=by rw[e']at g2; exact vi g2
     have:=wf.inj i j b (by rw[he]; trivial) hlj hb g1
     subst this
     rw[hdead]at g2
     cases g2
    ·rw[e']at g2; cases g2
  ·exact .undef _
 | @agg cs y hl _ ih =>
  intro TY
  simp only[V.shut,O6]
  refine .agg (by simpa using hl) fun j v d hv hd => ?_
  rw[List.getElem?_map]at hv
  cases e:cs[j]? with
  | none=>rw[e]at hv; cases hv
  | some u =>
   rw[e]at hv; simp at hv; subst hv
   exact ih j u d e hd fun i hi=>TY i (by simp only[V.ids]; exact uS.2 ⟨j,u,e,hi⟩)
 | @tuple cs y hl _ ih =>
  intro TY
  simp only[V.shut,O6]
  refine .tuple (by simpa using hl) fun j v d hv hd => ?_
  rw[List.getElem?_map]at hv
  cases e:cs[j]? with
  | none=>rw[e]at hv; cases hv
  | some u =>
   rw[e]at hv; simp at hv; subst hv
   exact ih j u d e hd fun i hi=>TY i (by simp only[V.ids]; exact uS.2 ⟨j,u,e,hi⟩)
 | undef v=>exact fun _ => .undef _
 | int hn=>exact fun _ => .int hn
 | bool b=>exact fun _ => .bool b
 | str hl=>exact fun _ => .str hl
 | fM=>exact fun _ => .fM
 | cV=>exact fun _ => .cV
 | bg=>exact fun _ => .bg
 | qU=>exact fun _ => .qU
 | eg=>exact fun _ => .eg
 | iface t v=>exact fun _ => .iface t v
 | NU hn=>exact fun _ => .NU hn
 | HG hi hn hv=>exact fun _=>(eG.HG hi hn hv).mono x
 | Ms b=>exact fun _ => .Ms b
 | ptr hi hv=>exact fun _=>(eG.ptr hi hv).mono x
 | map hi hv=>exact fun _=>(eG.map hi hv).mono x
 | wV hi hv=>exact fun _=>(eG.wV hi hv).mono x
 | zD f hc hr _=>exact fun _=>(eG.zD f hc hr).mono x
 | R0 hn wj f hc hr _=>exact fun _=>(eG.R0 hn wj f hc hr).mono x
 | func ha hb hra hrb _ _=>exact fun _=>(eG.func ha hb hra hrb).mono x
theorem Wx (wf:WF w h c) {vs:List V} {ds:List Value} (r:cT w h c vs ds):cT w (qg h (V.wm vs)) c (V.Rr h vs) ds:=by
 rw[O6]
 refine ⟨by simpa using r.1,fun j v d hv hd => ?_⟩
 rw[List.getElem?_map]at hv
 cases e:vs[j]? with
 | none=>rw[e]at hv; cases hv
 | some u =>
  rw[e]at hv; simp at hv; subst hv
  exact shut_rep wf (r.2 j u d e hd) fun i hi=>uS.2 ⟨j,u,e,hi⟩
theorem Wy {t:Nat} {v:V} {d:Value} (r:eG w h c v d):eG w h c (canon tt t v) d:=by
 unfold canon
 split
 ·rename_i T hT
  split
  ·rename_i cs
   split
   ·rename_i x hx
    split
    ·cases r with
     | @agg _ y hl hr =>
      have rl:cT w h c cs y.toList:=⟨by simpa using hl,fun j v d hv hd=>hr j v d hv (by simpa using hd)⟩
      have:=Mf hx rl
      exact .agg (by simpa using this.1) fun j v d hv hd=>this.2 j v d hv (by simpa using hd)
    ·exact r
   ·exact r
  ·split
   ·rename_i x hx
    split
    ·exact r
    ·have:=Mf hx (cT.cons r cT.nil)
     split
     ·rename_i e he
      rw[he]at this
      exact this.head
     ·exact r
   ·exact r
 ·split
  ·split
   ·split
    ·rename_i l hl; exact TJ r hl
    ·exact r
   ·exact r
  ·exact r
theorem TZ:∀(ts:List Nat) {vs:List V} {ds:List Value},cT w h c vs ds→cT w h c (NW tt ts vs) ds
 | [],vs,ds,r=>by simpa [NW]using r
 | t::ts, [],ds,r=>by simpa [NW]using r
 | t::ts,v::vs, [],r=>by have:=r.1; simp at this
 | t::ts,v::vs,d::ds,r => .cons (Wy r.head) (TZ ts r.tail)
theorem QC {v:V} {d:Value} (hs:v.We=true) (r:eG w h c v d):eG w' h' c' v d:=by
 cases r <;> simp only[V.We]at hs <;> try (first|cases hs)
 case int hn=>exact .int hn
 case bool b=>exact .bool b
 case str hl=>exact .str hl
 case fM=>exact .fM
 case cV=>exact .cV
 case bg=>exact .bg
 case qU=>exact .qU
 case eg=>exact .eg
 case iface t v=>exact .iface t v
 case NU hn=>exact .NU hn
theorem scal_rep {v:V} {d:Value} (hs:v.scal=true) (r:eG w h c v d):eG w' h' c' v d:=by
 cases r
 case agg hl hr =>
  simp only[V.scal,List.all_eq_true]at hs
  exact .agg hl fun j v d hv hd=>QC (hs v (List.mem_of_getElem? hv)) (hr j v d hv hd)
 case tuple hl hr =>
  simp only[V.scal,List.all_eq_true]at hs
  exact .tuple hl fun j v d hv hd=>QC (hs v (List.mem_of_getElem? hv)) (hr j v d hv hd)
 all_goals first
  | exact QC (w:=w) (h:=h) (c:=c) hs (by constructor <;> assumption)
  | (simp only[V.scal,V.We]at hs; cases hs)
theorem still_ext {c1 c2:lj} (wf:WF w h c) (x:Ext w [] c1 w' h' c2):Ext w h c w' h c∧WF w' h c:=by
 have nown:∀b y, ¬wX ([]:aO) c1 b y:=fun b y ho=>by
  obtain ⟨i,f,_,g2,_⟩:=ho
  simp[aO.at,cj.from_]at g2
 have hx:Ext w h c w' h c := {
  os:=x.os
  tape:=x.tape
  output:=x.output
  size:=x.size
  used:=fun _ hi=>hi
  same:=fun i hi hd=>⟨by have h2:=hi.2; revert hd h2; cases h.at i <;> simp[cj.jz],rfl,rfl⟩
  cell:=fun b y hb _=>x.cell b y hb (nown b y)
  block:=fun b hb _=>x.block b hb (nown b)
  AP:=fun _ _ _ ho=>ho
  ext:=rfl
  arr:=x.arr }
 refine ⟨hx,?_,fun b y hb=>Nat.lt_of_lt_of_le (wf.sL b y hb) x.size,fun i hi => ?_,wf.inj,wf.vF hx⟩
 ·exact wf.Cc
 ·by_cases hl:(h.at i).live
  ·exact (wf.obj i hi).zC hx (fun b hb=>x.block b ((wf.obj i hi).lt hl hb) (nown b)) rfl rfl
  ·have h0:h.at i = .free∨h.at i = .dead:=by revert hl; cases h.at i <;> simp[cj.live]
   rcases h0 with h0|h0 <;> rw[h0] <;> trivial
end
section
variable {P:Program} {tt:eF} {w w':World} {h h':aO} {c c':lj} {R:Type}
def Bd (P:Program) (g:Nat) (args:Array Value) (w:World) (Q:Value→World→Prop):Prop :=
 ∃nx w1,(callFunc g args).run P w = .ok nx w1 ∧
  match nx with
  | .value d=>Q d w1
  | .enter f xs=>Calls P f xs w1 fun e w'=>∃d,e = .returned d∧Q d w'
  | .row row xs=>Rows P row xs w1 Q
  | _=>False
theorem Bd.mono {g:Nat} {args:Array Value} {Q Q':Value→World→Prop} (h:Bd P g args w Q) (hq:∀d w',Q d w'→Q' d w'):Bd P g args w Q':=by
 obtain ⟨nx,w1,h1,h2⟩:=h
 refine ⟨nx,w1,h1,?_⟩
 cases nx <;> simp only at h2 ⊢
 ·exact hq _ _ h2
 ·exact Calls.mono h2 fun e w' ⟨d,e1,q⟩=>⟨d,e1,hq _ _ q⟩
 ·exact Rows.mono h2 fun d w' q=>hq _ _ q
def Spec.Ok (P:Program) (g:Nat) (sp:Spec R):Prop :=
 ∀vs h k r,sp vs h k=some r→∀(w:World) (c:lj) (args:Array Value),WF w h c→cT w h c vs args.toList →
  Bd P g args w fun d w'=>∃v h' c',WF w' h' c'∧Ext w h c w' h' c'∧eG w' h' c' v d∧k v h'=some r
def Spec.OkAt (P:Program) (g m:Nat) (sp:Spec R):Prop :=
 ∀vs h k r,h.length=m→sp vs h k=some r→∀(w:World) (c:lj) (args:Array Value),WF w h c→cT w h c vs args.toList →
  Bd P g args w fun d w'=>∃v h' c',WF w' h' c'∧Ext w h c w' h' c'∧eG w' h' c' v d∧k v h'=some r
def La (sp:Spec R):Prop:=∀vs h k k',(∀v,k v h=k' v h)→sp vs h k=sp vs h k'
def EOk (P:Program) (E:Env R):Prop:=∀g b sp,E g=some (b,sp)→Spec.Ok P g sp∧(b=false→qT.soft g=true→La sp)
theorem La.same {sp:Spec R} (hs:La sp) {vs:List V} {k:V→aO→Option R} {r:R} (hk:sp vs h k=some r):∃k',sp vs h k'=some r∧∀v h',k' v h'=some r→h'=h∧k v h=some r:=by
 classical
 refine ⟨fun v h'=>if h'=h then k v h else none,?_,fun v h' e => ?_⟩
 ·rw[←hk]
  exact hs _ _ _ _ fun v=>by simp
 ·simp only at e
  split at e
  ·exact ⟨‹_›,e⟩
  ·cases e
theorem Spec.OkAt.of_body {g m:Nat} {sp:Spec R} {fn:Func} (hf:P.funcs[g]? = some fn) (hn:(fn.name == "runtime.NumGoroutine")=false) (hb:fn.body.isNone=false)
  (hs:∀vs h k r,h.length=m→sp vs h k=some r→∀(w:World) (c:lj) (args:Array Value),WF w h c→cT w h c vs args.toList →
   Calls P g args w fun e w'=>∃d,e = .returned d∧∃v h' c',WF w' h' c'∧Ext w h c w' h' c'∧eG w' h' c' v d∧k v h'=some r):Spec.OkAt P g m sp:=by
 intro vs h k r hml hk w c args wf ra
 refine ⟨.enter g args,w,?_,hs vs h k r hml hk w c args wf ra⟩
 have YH:fn.name ≠ "runtime.NumGoroutine" :=by simpa using hn
 have uR:fn.body≠none:=fun e=>by rw[e]at hb; cases hb
 simp[callFunc,hf,YH,uR]
theorem Zz:∀ {v:V},v.ids = []→∀ρ,v.sV ρ=v:=by
 have key:(∀v:V,v.ids = []→∀ρ,v.sV ρ=v)∧∀l:List V,V.wm l = []→∀ρ,V.Cq ρ l=l:=by
  refine ⟨fun v => ?_,fun l => ?_⟩
  ·refine V.rec (motive_1:=fun v=>v.ids = []→∀ρ,v.sV ρ=v) (motive_2:=fun l=>V.wm l = []→∀ρ,V.Cq ρ l=l) ?_ ?_ ?_ ?_ ?_ ?_ ?_ ?_ ?_ ?_ ?_ ?_ ?_ ?_ ?_ ?_ ?_ ?_ ?_ ?_ ?_ ?_ ?_ ?_ ?_ v <;> first
    | (intros; rfl)
    | (intros; simp_all [V.ids,V.wm,V.sV,V.Cq]; done)
    | skip
   ·intro T l t ht ρ
    cases t <;> simp_all [V.ids,V.sV,Tok.sV]
  ·refine V.rec_1 (motive_1:=fun v=>v.ids = []→∀ρ,v.sV ρ=v) (motive_2:=fun l=>V.wm l = []→∀ρ,V.Cq ρ l=l) ?_ ?_ ?_ ?_ ?_ ?_ ?_ ?_ ?_ ?_ ?_ ?_ ?_ ?_ ?_ ?_ ?_ ?_ ?_ ?_ ?_ ?_ ?_ ?_ ?_ l <;> first
    | (intros; rfl)
    | (intros; simp_all [V.ids,V.wm,V.sV,V.Cq]; done)
    | skip
   ·intro T l t ht ρ
    cases t <;> simp_all [V.ids,V.sV,Tok.sV]
 exact fun {v} hv ρ=>key.1 v hv ρ
theorem T0 (h:aO):h.back [] []=h:=by simp[aO.back,aO.D6]
def xB (al:Bool) (id:Nat) (h h':aO):Prop:=h.length≤h'.length∧∀j,(al=true→j≠id)→j<h.length→h.at j = .free→h'.at j = .free
theorem back_keeps {ord:List Nat} (J9:ord.Nodup) (hu:∀i∈ord,Used h i) (hle:ord.length≤h'.length):xB false 0 h (h.back ord h'):=by
 refine ⟨by simp[aO.back,gK],fun j _ hj hf => ?_⟩
 have hn:j∉ord:=fun hm=>(hu j hm).2 hf
 rcases GH (c:=⟨fun _=>none,fun _=>0,⟨fun _ _=>False⟩⟩) (c':=⟨fun _=>none,fun _=>0,⟨fun _ _=>False⟩⟩) J9 (fun i hi=>(hu i hi).1) hle j with ⟨i,h1,h2,_⟩|⟨_,_,h3,_⟩|⟨h1,_⟩
 ·unfold si at h1
  split at h1
  ·rename_i hi
   simp only[List.getD,List.getElem?_eq_getElem hi,Option.getD_some]at h1
   exact (hn (h1▸List.getElem_mem hi)).elim
  ·omega
 ·rw[h3]; exact hf
 ·simp[aO.back,gK]at h1; omega
theorem ev_rep {st:List V} {a:Act} (r:cT w h c st a.tmps.toList) (x:Operand):eG w h c (ev st x) (a.eval x):=by
 cases x with
 | tmp t =>
  have:=r.getD t undef
  simpa [ev,Act.eval,List.getD,Array.getD_eq_getD_getElem?]using this
 | const v=>exact Rt v
 | global g=>exact .undef _
 | func f=>exact .func rfl rfl (by simp) (by simp)
theorem XG {v:V} {d:Value} (r:eG w h c v d):eG w h c (Tp v) d:=by
 cases r with
 | sl f ni wj hc hr DE oj=>exact .sl f ni wj hc hr (by simp) (by simp)
 | _=>simp only[Tp]; constructor <;> assumption
theorem Rw {v:V} {d:Value} (r:eG w h c v d):eG w h c (Ix v) d:=by
 cases r with
 | sl f ni wj hc hr DE oj=>exact .sl f ni wj hc hr (by simp) (by simp)
 | @agg cs x hl hr =>
  refine .agg (by simpa using hl) fun j v d hv hd => ?_
  rw[List.getElem?_map]at hv
  cases e:cs[j]? with
  | none=>rw[e]at hv; cases hv
  | some u=>rw[e]at hv; simp at hv; subst hv; exact XG (hr j u d e hd)
 | _=>simp only[Ix]; constructor <;> assumption
theorem XH {vs:List V} {ds:List Value} (r:cT w h c vs ds):cT w h c (vs.map Ix) ds:=by
 refine ⟨by simpa using r.1,fun j v d hv hd => ?_⟩
 rw[List.getElem?_map]at hv
 cases e:vs[j]? with
 | none=>rw[e]at hv; cases hv
 | some u=>rw[e]at hv; simp at hv; subst hv; exact Rw (r.2 j u d e hd)
theorem Wz {vs:List V} (h:V.wm vs = []) (ρ:Nat→Option Nat):V.Cq ρ vs=vs:=by
 have:∀v∈vs,v.sV ρ=v:=fun v hv=>by
  refine Zz ?_ _
  cases hi:v.ids with
  | nil=>rfl
  | cons i l =>
   obtain ⟨j,hj⟩:=List.mem_iff_getElem?.1 hv
   have:i∈V.wm vs:=uS.2 ⟨j,v,hj,by rw[hi]; simp⟩
   rw[h]at this; cases this
 rw[S1]
 conv=>rhs; rw[←List.map_id vs]
 exact List.map_congr_left this
theorem ZA {E:Env R} (hE:EOk P E) (wf:WF w h c) {o:Oper} {cl:Call} (ho:o.op = .call cl) {ρ:Operand→V} {ρ':Operand→Value} (hρ:∀x,eG w h c (ρ x) (ρ' x)) {full:Bool}
  {k:V→aO→Option R} {r:R} (hk:Cm tt E full cl ρ h k=some r) :
  ∃g args,(execOp ρ' o).run P w=(callFunc g args).run P w∧Bd P g args w fun d w' =>
   ∃v h' c',WF w' h' c'∧Ext w h c w' h' c'∧eG w' h' c' v d∧k v h'=some r∧xB false 0 h h'∧(full=false→h'=h):=by
 obtain ⟨dst,op,type,pos,after,guard⟩:=o
 simp only at ho
 subst ho
 unfold Cm at hk
 split at hk <;> try (first|cases hk)
 rename_i f hf
 split at hk <;> try (first|cases hk)
 rename_i g first cap hg
 have rf:=hρ f
 rw[hg]at rf
 generalize hdf:ρ' f=df at rf
 cases rf with
 | @func _ _ _ x y ha hb hra hrb =>
  have rargs:cT w h c (first++cl.args.toList.map ρ++cap) (x++cl.args.map ρ'++y).toList:=by
   have e:(x++cl.args.map ρ'++y).toList=x.toList++cl.args.toList.map ρ'++y.toList:=by simp
   rw[e]
   refine cT.append (cT.append ⟨by simpa using ha,fun j v d hv hd=>hra j v d hv (by simpa using hd)⟩ (cT.map _ fun z _=>hρ z)) ⟨by simpa using hb,fun j v d hv hd=>hrb j v d hv (by simpa using hd)⟩
  have rplain:cT w h c ((first++NW tt cl.argTypes.toList (cl.args.toList.map ρ)++cap).map Ix) (x++cl.args.map ρ'++y).toList:=by
   have e:(x++cl.args.map ρ'++y).toList=x.toList++cl.args.toList.map ρ'++y.toList:=by simp
   rw[e]
   refine XH (cT.append (cT.append ⟨by simpa using ha,fun j v d hv hd=>hra j v d hv (by simpa using hd)⟩ (TZ _ (cT.map _ fun z _=>hρ z))) ⟨by simpa using hb,fun j v d hv hd=>hrb j v d hv (by simpa using hd)⟩)
  simp only at hk
  refine ⟨g,x++cl.args.map ρ'++y,by simp[execOp,resolve,hf,hdf,Deferred.ofValue,invoke],?_⟩
  generalize (first++NW tt cl.argTypes.toList (cl.args.toList.map ρ)++cap).map Ix=ps at *
  generalize first++cl.args.toList.map ρ++cap=vs at *
  split at hk <;> try (first|cases hk)
  ·-- a plain one
   rename_i sp O7
   split at hk
   ·rename_i TY
    have ra:=N5 (ord := []) rplain
    rw[Wz TY]at ra
    refine Bd.mono ((hE g _ sp O7).1 _ _ _ _ hk w _ _ (QA (ord := []) wf List.nodup_nil) ra) fun d w' ⟨v,h',c',wf',x,rv,uQ⟩ => ?_
    obtain ⟨k1,k2,k3⟩:=Wq wf (ord := []) (by simp) (by simp) wf' x
    split at uQ <;> try (first|cases uQ)
    refine ⟨v,h,c.back [] h.length c',?_,?_,?_,uQ,⟨Nat.le_refl _,fun j _ _ hf=>hf⟩,fun _=>rfl⟩
    ·rw[T0]at k1; exact k1
    ·rw[T0]at k2; exact k2
    ·have:=rv.sV k3
     rw[T0]at this
     rw[Zz]at this
     ·exact this
     ·cases hi:v.ids with
      | nil=>rfl
      | cons i l =>
       have:=rv.DH i (by rw[hi]; simp)
       exact (Nat.not_lt_zero _ this.1).elim
   ·cases full with
    | false=>cases hk
    | true =>
     simp only[cond_true]at hk
     unfold lendK at hk
     split at hk <;> try (first|cases hk)
     rename_i TY
     have ra:=N5 (ord := []) (Wx wf rplain)
     rw[Wz TY]at ra
     refine Bd.mono ((hE g _ sp O7).1 _ _ _ _ hk w _ _ (QA (ord := []) (GI _ _ wf) List.nodup_nil) ra) fun d w' ⟨v,h',c',wf',x,rv,uQ⟩ => ?_
     split at uQ <;> try (first|cases uQ)
     cases hs:v.scal with
     | false=>rw[hs]at uQ; cases uQ
     | true =>
      rw[hs]at uQ
      obtain ⟨hx,hw⟩:=still_ext wf x
      exact ⟨v,h,c,hw,hx,scal_rep hs rv,uQ,⟨Nat.le_refl _,fun j _ _ hf=>hf⟩,fun _=>rfl⟩
  ·rename_i sp O7
   cases full with
   | false=>cases hk
   | true =>
    simp only[cond_true]at hk
    cases hso:qT.soft g with
    | true =>
     rw[hso]at hk
     simp only[cond_true]at hk
     obtain ⟨k',hk1,KX⟩:=((hE g _ sp O7).2 rfl hso).same hk
     refine Bd.mono ((hE g _ sp O7).1 _ _ _ _ hk1 w _ _ wf rargs) fun d w' ⟨v,h',c',wf',x,rv,uQ⟩ => ?_
     obtain ⟨rfl,hk3⟩:=KX _ _ uQ
     exact ⟨v,_,c',wf',x,rv,hk3,⟨Nat.le_refl _,fun j _ _ hf=>hf⟩,fun _=>rfl⟩
    | false =>
    rw[hso]at hk
    simp only[cond_false]at hk
    have hui:=rargs.DH
    generalize V.wm vs=ids at *
    have hu:∀i∈reach h 64 ids [],Used h i:=N4 wf _ _ _ hui (by simp)
    have J9:(reach h 64 ids []).Nodup:=GG h _ _ _ (by simp)
    refine Bd.mono ((hE g _ sp O7).1 _ _ _ _ hk w _ _ (QA wf J9) (N5 rargs)) fun d w' ⟨v,h',c',wf',x,rv,uQ⟩ => ?_
    obtain ⟨k1,k2,k3⟩:=Wq wf J9 hu wf' x
    have hle:(reach h 64 ids []).length≤h'.length:=by
     rcases Nat.eq_zero_or_pos (reach h 64 ids []).length with h0|h0
     ·omega
     ·have:=(x.used ((reach h 64 ids []).length - 1) ⟨by simp[aO.pick]; omega,by
       rw[zt,List.getElem?_eq_getElem (by omega)]
       simp only[ne_eq,HP]
       exact (hu _ (List.getElem_mem _)).2⟩).1
      omega
    exact ⟨_,_,_,k1,k2,rv.sV k3,uQ,back_keeps J9 hu hle,fun hd'=>by cases hd'⟩
end
section
variable {tt:eF} {h:aO} {R:Type}
theorem srcOf_set {T:Ty} {x:V} {id ix:Nat} {ob:cj} (hx:lowX id x=true) (kY:id<ix):Rq T (h.set ix ob) x=Rq T h x:=by
 cases x <;> simp only[Rq]
 case row i n =>
  simp only[lowX,decide_eq_true_eq]at hx
  rw[dt _ (by omega)]
theorem ZB {e id ix:Nat} {s x:V} {ob:cj} {k:V→aO→Option R} (hs:lowS id s=true) (hx:lowX id x=true) (kY:id<ix) :
  qD tt e s x (h.set ix ob) id k=qD tt e s x h id fun v h'=>k v (h'.set ix ob):=by
 have hc:∀(h:aO) (o1:cj),(h.set ix ob).set id o1=(h.set id o1).set ix ob:=fun h o1=>List.set_comm _ _ (by omega)
 unfold qD
 cases (tt.at e).ty with
 | none=>rfl
 | some T =>
  simp only[srcOf_set hx kY]
  split
  ·cases Rq T h x with
   | none=>rfl
   | some m =>
    cases s with
    | cV =>
     simp only[hc]
    | sl T' l tk =>
     simp only
     split
     ·cases tk with
      | no=>rfl
      | nil=>simp only[hc]
      | own i =>
       simp only[lowS,decide_eq_true_eq]at hs
       simp only
       rw[dt _ (by omega)]
       have hci:∀o1:cj,(h.set ix ob).set i o1=(h.set i o1).set ix ob:=fun o1=>List.set_comm _ _ (by omega)
       simp only[hci,hc]
     ·rfl
    | row i n=>simp[lowS]at hs
    | _=>rfl
  ·rfl
theorem XI {e id:Nat} {s x:V} {k k':V→aO→Option R} (hs:lowS id s=true) (hk:∀v h',(∀i,i<id→(h'.at i).rd=(h.at i).rd)→k v h'=k' v h') :
  qD tt e s x h id k=qD tt e s x h id k':=by
 have h1:∀v o1,k v (h.set id o1)=k' v (h.set id o1):=fun v o1=>hk v _ fun i hi=>by rw[dt _ (by omega)]
 unfold qD
 cases (tt.at e).ty with
 | none=>rfl
 | some T =>
  simp only
  split
  ·cases Rq T h x with
   | none=>rfl
   | some m =>
    cases s with
    | cV=>simp only[h1]
    | sl T' l tk =>
     simp only
     split
     ·cases tk with
      | no=>rfl
      | nil=>simp only[h1]
      | own i =>
       simp only[lowS,decide_eq_true_eq]at hs
       simp only
       have h2:h.at i = .tok→∀v o1,k v ((h.set i .dead).set id o1)=k' v ((h.set i .dead).set id o1):=fun ht v o1=>hk v _ fun j hj=>by
        rw[dt _ (by omega)]
        by_cases e:i=j
        ·subst e
         rw[ht,oy]
         split <;> simp[cj.rd,ht]
        ·rw[dt _ e]
       cases ht:h.at i <;> try rfl
       simp only[h2 ht]
     ·rfl
    | row i n=>simp[lowS]at hs
    | _=>rfl
  ·rfl
theorem XJ {o:Op} (ha:sK o=true):∃c,o = .call c∧c.callee = .builtin .append:=by
 unfold sK at ha
 split at ha <;> try (first|cases ha)
 rename_i c
 refine ⟨c,rfl,?_⟩
 revert ha
 split
 ·intro _; assumption
 ·intro h; cases h
theorem GJ {o:Op} (ha:sK o=true):gv tt o = .W:=by
 obtain ⟨c,rfl,hc⟩:=XJ ha
 simp only[gv,hc]
theorem XK {o:Op} {ρ ρ':Operand→V} {id:Nat} (h':∀x∈o.operands,ρ x=ρ' x):zG o ρ id=zG o ρ' id:=by
 unfold zG
 split
 ·rename_i c
  have ha:∀x∈c.args.toList,ρ x=ρ' x:=fun x hx=>h' x (by simp[Op.operands,Call.operands]at hx ⊢; exact .inr hx)
  split
  ·rename_i s x e
   rw[ha s (by rw[e]; simp),ha x (by rw[e]; simp)]
  ·rfl
 ·rfl
theorem opW_set {o:Op} {ρ:Operand→V} {id ix:Nat} {ob:cj} {k:V→aO→Option R} (ha:sK o=true) (hl:zG o ρ id=true) (kY:id<ix) :
  SX tt o ρ (h.set ix ob) id k=SX tt o ρ h id fun v h'=>k v (h'.set ix ob):=by
 obtain ⟨⟨callee,args,argTypes⟩,rfl,hc⟩:=XJ ha
 simp only at hc
 subst hc
 simp only[SX]
 split
 ·rename_i s x t xt _ e et
  simp only[zG,e,Bool.and_eq_true]at hl
  simp only[ZB hl.1 hl.2 kY]
 ·rfl
theorem ZC {o:Op} {ρ:Operand→V} {id:Nat} {k k':V→aO→Option R} (ha:sK o=true) (hl:zG o ρ id=true) (hk:∀v h',(∀i,i<id→(h'.at i).rd=(h.at i).rd)→k v h'=k' v h') :
  SX tt o ρ h id k=SX tt o ρ h id k':=by
 obtain ⟨⟨callee,args,argTypes⟩,rfl,hc⟩:=XJ ha
 simp only at hc
 subst hc
 simp only[SX]
 split
 ·rename_i s x t xt _ e et
  simp only[zG,e,Bool.and_eq_true]at hl
  simp only[XI hl.1 hk]
 ·rfl
end
section
variable {P:Program} {tt:eF} {w w':World} {h h':aO} {c c':lj} {R:Type}
structure N6 (w:World) (c:lj) (st:St) (a:Act):Prop where
 wf:WF w st.hp c
 fr:cT w st.hp c st.fr a.tmps.toList
theorem xB.refl (al:Bool) (id:Nat) (h:aO):xB al id h h:=⟨Nat.le_refl _,fun _ _ _ hf=>hf⟩
theorem xB.set {id:Nat} (ob:cj):xB true id h (h.set id ob):=⟨by simp,fun j hj _ hf=>by rw[dt _ (Ne.symm (hj rfl))]; exact hf⟩
theorem xB.weak {al:Bool} {id:Nat} (k:xB false 0 h h'):xB al id h h':=⟨k.1,fun j _ hj hf=>k.2 j (by simp) hj hf⟩
theorem opW_nat {o:Op} {ρ:Operand→V} {id:Nat} {k0:V→aO→Option R} {r:R} (hk:SX tt o ρ h id k0=some r) :
  ∃v h',k0 v h'=some r∧xB true id h h'∧∀k:V→aO→Option R,SX tt o ρ h id k=k v h':=by
 have kset:∀i ob,h.at i ≠ .free→xB true id h (h.set i ob):=fun i ob hi=>⟨by simp,fun j _ _ hf=>by
  rw[dt _ (fun e:i=j=>hi (by rw[e]; exact hf))]; exact hf⟩
 have kset2:∀i ob ob',h.at i ≠ .free→xB true id h ((h.set i ob).set id ob'):=fun i ob ob' hi=>⟨by simp,fun j hj _ hf=>by
  rw[dt _ (Ne.symm (hj rfl)),dt _ (fun e:i=j=>hi (by rw[e]; exact hf))]; exact hf⟩
 cases o <;> simp only[SX]at hk ⊢ <;> try (first|cases hk)
 case store t x y =>
  split at hk <;> try (first|cases hk)
  rename_i vs hvs
  split at hk <;> try (first|cases hk)
  rename_i hc
  split at hk <;> try (first|cases hk)
  ·rename_i i o hx
   split at hk <;> try (first|cases hk)
   ·rename_i cs Dr
    split at hk <;> try (first|cases hk)
    rename_i hl
    exact ⟨_,_,hk,kset i _ (by rw[Dr]; simp),fun k=>by simp only[*,if_true]⟩
   rename_i u Dr
   split at hk <;> try (first|cases hk)
   exact ⟨_,_,hk,kset i _ (by rw[Dr]; simp),fun k=>by simp only[*,if_true]⟩
  ·rename_i i sz j o hx
   split at hk <;> try (first|cases hk)
   rename_i T l Dr
   split at hk <;> try (first|cases hk)
   rename_i hs
   split at hk <;> try (first|cases hk)
   rename_i hl
   split at hk <;> try (first|cases hk)
   rename_i z hz
   obtain ⟨hb,hk⟩:=cD hk
   exact ⟨_,_,hk,kset i _ (by rw[Dr]; simp),fun k=>by simp only[*,if_true,cu,cond_true]⟩
 case slice t x lo hi mx =>
  cases hb:(lo.isNone&&hi.isNone&&mx.isNone)with
  | false=>rw[hb]at hk; cases hk
  | true =>
   rw[hb,cond_true]at hk
   unfold HJ at hk
   split at hk <;> try (first|cases hk)
   rename_i m e i ht hx
   split at hk <;> try (first|cases hk)
   rename_i cs Dr
   split at hk <;> try (first|cases hk)
   rename_i T' hT
   split at hk <;> try (first|cases hk)
   rename_i hc
   split at hk <;> try (first|cases hk)
   rename_i l hl
   exact ⟨_,_,hk,kset i _ (by rw[Dr]; simp),fun k=>by
    rw[cond_true]
    unfold HJ
    simp only[ht,hx,Dr,hT]
    rw[if_pos hc,hl]⟩
 case mapUpdate t m x y =>
  split at hk <;> try (first|cases hk)
  rename_i kt vt i ht hx
  split at hk <;> try (first|cases hk)
  rename_i K V' l hm
  split at hk <;> try (first|cases hk)
  rename_i hf
  split at hk <;> try (first|cases hk)
  rename_i kx vx hkx hvx
  exact ⟨_,_,hk,kset i _ (by rw[hm]; simp),fun k=>by simp only[ht,hx,hm,hf,hkx,hvx,if_true]⟩
 case insert t m x y =>
  split at hk <;> try (first|cases hk)
  rename_i kt vt i ht hx
  split at hk <;> try (first|cases hk)
  rename_i K V' l hm
  split at hk <;> try (first|cases hk)
  rename_i hf
  split at hk <;> try (first|cases hk)
  rename_i kx vx hkx hvx
  exact ⟨_,_,hk,kset i _ (by rw[hm]; simp),fun k=>by simp only[ht,hx,hm,hf,hkx,hvx,if_true]⟩
 case next x str =>
  split at hk <;> try (first|cases hk)
  rename_i i hx
  split at hk <;> try (first|cases hk)
  rename_i s pos hit
  cases hb:decide (pos<s.length)with
  | true =>
   rw[hb]at hk
   exact ⟨_,_,hk,kset i _ (by rw[hit]; simp),fun k=>by simp only[hx,hit,hb,cond_true]⟩
  | false =>
   rw[hb]at hk
   exact ⟨_,_,hk, .refl _ _ _,fun k=>by simp only[hx,hit,hb,cond_false]⟩
 case call cl =>
  have happ:∀e s x,qD tt e s x h id k0=some r→∃v h',k0 v h'=some r∧xB true id h h'∧∀k:V→aO→Option R,qD tt e s x h id k=k v h':=by
   intro e s x hk
   unfold qD at hk
   split at hk <;> try (first|cases hk)
   rename_i T hT
   split at hk <;> try (first|cases hk)
   rename_i hc
   split at hk <;> try (first|cases hk)
   rename_i m hm
   split at hk <;> try (first|cases hk)
   ·obtain ⟨hb,hk⟩:=cD hk
    split at hk
    ·rename_i hr
     exact ⟨_,_,hk,xB.set _,fun k=>by simp only[qD,hT,hc,hm,if_true,hb,cu,cond_true,hr]⟩
    ·rename_i hr
     exact ⟨_,_,hk,xB.set _,fun k=>by simp only[qD,hT,hc,hm,if_true,hb,cu,cond_true,if_neg hr]⟩
   ·split at hk <;> try (first|cases hk)
    rename_i hq
    subst hq
    split at hk <;> try (first|cases hk)
    ·obtain ⟨hb,hk⟩:=cD hk
     exact ⟨_,_,hk,xB.set _,fun k=>by simp only[qD,hT,hc,hm,if_true,hb,cu,cond_true,dite_true]⟩
    ·split at hk <;> try (first|cases hk)
     rename_i hi
     obtain ⟨hb,hk⟩:=cD hk
     exact ⟨_,_,hk,kset2 _ _ _ (by rw[hi]; simp),fun k=>by simp only[qD,hT,hc,hm,hi,if_true,hb,cu,cond_true,dite_true]⟩
   ·split at hk <;> try (first|cases hk)
    rename_i T' l hi
    split at hk <;> try (first|cases hk)
    rename_i hq
    subst hq
    obtain ⟨hb,hk⟩:=cD hk
    exact ⟨_,_,hk,kset2 _ _ _ (by rw[hi]; simp),fun k=>by simp only[qD,hT,hc,hm,hi,if_true,hb,cu,cond_true,dite_true]⟩
  split at hk <;> try (first|cases hk)
  split at hk <;> try (first|cases hk)
  ·obtain ⟨v,h',h1,h2,h3⟩:=happ _ _ _ hk
   exact ⟨v,h',h1,h2,fun k=>by simp[*]⟩
  ·obtain ⟨v,h',h1,h2,h3⟩:=happ _ _ _ hk
   exact ⟨v,h',h1,h2,fun k=>by simp[*]⟩
theorem E0 {st:List V} {a:Act} (r:cT w h c st a.tmps.toList) (dst:Option Nat) {v:V} {d:Value} (rv:eG w h c v d):cT w h c (ow st dst v) (a.put dst d).tmps.toList:=by
 cases dst with
 | none=>exact r
 | some j=>simpa [ow,Act.put]using r.set j rv
theorem put_defers (a:Act) (dst:Option Nat) (d:Value):(a.put dst d).defers=a.defers:=by cases dst <;> rfl
theorem Lb (T:A6 P tt) {E:Env R} (hE:EOk P E) {o:Oper} {st:St} {a:Act} {drawn:Option Nat} {id:Nat} {k:St→Option R} {r:R} (hk:DC tt E drawn id o st k=some r) (jz:N6 w c st a)
  (hid:cw tt o=true→id<st.hp.length∧st.hp.at id = .free) {next:Act→World→Prop} {Q:Exit→Act→World→Prop}
  (hn:∀d w' wW c' v,N6 w' c' wW (a.put o.dst d)→Ext w st.hp c w' wW.hp c'→xB (cw tt o) id st.hp wW.hp→wW.fr=ow st.fr o.dst v→(gv tt o.op ≠ .W→(gv tt o.op = .C→(drawn.isNone || !qE E o.op)=false)→∀i,(cw tt o=true→i≠id)→wW.hp.at i=st.hp.at i)→(sK o.op=true→drawn.isSome=true→∀i,i<id→(wW.hp.at i).rd=(st.hp.at i).rd)→k wW=some r→next (a.put o.dst d) w'):o.wp P a w next Q:=by
 have hρ:=fun x=>ev_rep jz.fr x
 unfold DC at hk
 unfold Oper.wp
 simp only at hk
 split at hk
 ·rename_i FQ
  obtain ⟨v,d,h1,h2,h3⟩:=opP_sound (w:=w) T hρ hk
  rw[h1,Oper.upon_value]
  exact hn d w ⟨ow st.fr o.dst v,st.hp⟩ c v ⟨jz.wf,E0 jz.fr _ h2⟩ (.refl _ _ _) (.refl _ _ _) rfl (fun _ _ _ _=>rfl) (fun _ _ _ _=>rfl) h3
 ·rename_i FQ
  obtain ⟨v,d,h1,h2,h3⟩:=opR_sound T jz.wf hρ hk
  rw[h1,Oper.upon_value]
  exact hn d w ⟨ow st.fr o.dst v,st.hp⟩ c v ⟨jz.wf,E0 jz.fr _ h2⟩ (.refl _ _ _) (.refl _ _ _) rfl (fun _ _ _ _=>rfl) (fun _ _ _ _=>rfl) h3
 ·rename_i FQ
  have hal:cw tt o=true:=by simp[cw,FQ]
  obtain ⟨ob,mk,h1,_,h2⟩:=opA_sound T jz.wf hρ hk
  obtain ⟨d,w',c',g1,g2,g3,g4⟩:=h2 id (hid hal).1 (hid hal).2
  rw[g1,Oper.upon_value]
  exact hn d w' ⟨ow st.fr o.dst (mk id),st.hp.set id ob⟩ c' (mk id) ⟨g2,E0 (jz.fr.mono g3) _ g4⟩ g3 (by rw[hal]; exact xB.set _) rfl (fun _ _ i hi=>dt _ (Ne.symm (hi hal))) (fun _ _ i hi=>by rw[dt _ (by omega)]) h1
 ·rename_i FQ
  have hal:cw tt o=true:=by simp[cw,FQ]
  have hk:(zG o.op (ev st.fr) id=true∨drawn.isSome=false)∧SX tt o.op (ev st.fr) st.hp id (fun v h=>k ⟨ow st.fr o.dst v,h⟩)=some r:=by
   revert hk
   cases zG o.op (ev st.fr) id <;> cases drawn.isSome <;> simp
  obtain ⟨XL,hk⟩:=hk
  let C:aO→Prop:=fun h'=>sK o.op=true→drawn.isSome=true→∀i,i<id→(h'.at i).rd=(st.hp.at i).rd
  have hk:SX tt o.op (ev st.fr) st.hp id (fun v h'=>open Classical in if C h' then k ⟨ow st.fr o.dst v,h'⟩else none)=some r:=by
   by_cases ha:sK o.op=true∧drawn.isSome=true
   ·have hl:=XL.resolve_right (by simp[ha.2])
    rw[←hk]
    exact ZC ha.1 hl fun v h' hrd=>if_pos fun _ _=>hrd
   ·have:∀h',C h':=fun h' h1 h2=>(ha ⟨h1,h2⟩).elim
    rw[←hk]
    congr 1
    funext v h'
    exact if_pos (this h')
  obtain ⟨v0,h0,hk0,hkeep,hnat⟩:=opW_nat hk
  have hk0':(open Classical in if C h0 then k ⟨ow st.fr o.dst v0,h0⟩else none)=some r:=hk0
  have hC0:C h0:=by
   by_cases hc:C h0
   ·exact hc
   ·rw[if_neg hc]at hk0'; cases hk0'
  rw[if_pos hC0]at hk0'
  replace hk0:=hk0'
  have KX:=hnat fun v h'=>open Classical in if h'=h0 then k ⟨ow st.fr o.dst v,h'⟩else none
  simp only[if_true]at KX
  obtain ⟨v,h',d,w',c',nx,g1,g2,g3,g4,g5,g6⟩:=opW_sound T jz.wf hρ (hid hal).1 (hid hal).2 (KX.trans hk0)
  split at g6 <;> try (first|cases g6)
  rename_i he
  subst he
  rw[g1]
  rcases g2 with rfl|⟨rfl,rfl⟩
  ·rw[Oper.upon_value]
   exact hn d w' ⟨ow st.fr o.dst v,h'⟩ c' v ⟨g3,E0 (jz.fr.mono g4) _ g5⟩ g4 (by rw[hal]; exact hkeep) rfl (fun hC=>(hC FQ).elim) hC0 g6
  ·rw[Oper.upon_skip]
   exact hn undef w' ⟨ow st.fr o.dst v,h'⟩ c' v ⟨g3,E0 (jz.fr.mono g4) _ g5⟩ g4 (by rw[hal]; exact hkeep) rfl (fun hC=>(hC FQ).elim) hC0 g6
 ·rename_i FQ
  split at hk <;> try (first|cases hk)
  rename_i cl KY
  obtain ⟨g,args,h1,nx,w1,h2,h3⟩:=ZA hE jz.wf KY hρ hk
  rw[h1,h2]
  have fin:∀d w',(∃v h' c',WF w' h' c'∧Ext w st.hp c w' h' c'∧eG w' h' c' v d∧k ⟨ow st.fr o.dst v,h'⟩=some r∧xB false 0 st.hp h'∧((drawn.isNone || !qE E o.op)=false→h'=st.hp))→next (a.put o.dst d) w':=by
   rintro d w' ⟨v,h',c',q1,q2,q3,q4,q5,q6⟩
   exact hn d w' ⟨ow st.fr o.dst v,h'⟩ c' v ⟨q1,E0 (jz.fr.mono q2) _ q3⟩ q2 q5.weak rfl (fun _ hd i _=>by rw[q6 (hd FQ)]) (fun ha=>by rw[GJ ha]at FQ; cases FQ) q4
  cases nx <;> simp only at h3
  ·rw[Oper.upon_value]; exact fin _ _ h3
  ·rw[Oper.upon_enter]
   exact Calls.mono h3 fun e w' ⟨d,e1,q⟩=>by subst e1; exact fin d w' q
  ·rw[Oper.upon_row]
   exact Rows.mono h3 fun d w' q=>fin d w' q
 ·cases hk
 ·cases hk
end
section
variable {P:Program} {tt:eF} {w w':World} {h h':aO} {c c':lj} {R:Type}
theorem set_same {fr:List V} {d:Nat} {v:V} (h:fr.getD d .undef=v) (hv:v ≠ .undef):fr.set d v=fr:=by
 have hd:d<fr.length:=by
  rcases Nat.lt_or_ge d fr.length with hl|hl
  ·exact hl
  ·simp[List.getD,List.getElem?_eq_none hl]at h; exact (hv h.symm).elim
 have e:fr[d]=v:=by simpa [List.getD,List.getElem?_eq_getElem hd]using h
 rw[←e]
 exact List.set_getElem_self hd
theorem Fz {all:List Oper} {o:Oper} {st:St} {run skip:St→Option R}:zH all o st run skip =
  match o.guard with
  | none=>run st
  | some (j,want) =>
   match (all[j]?).bind (·.dst)with
   | none=>none
   | some d=>match st.fr.getD d .undef with | .bool b=>if b=want then run st else skip st | .tuple []=>skip st|_=>none:=by
 unfold zH
 cases o.guard with
 | none=>rfl
 | some jw =>
  obtain ⟨j,want⟩:=jw
  simp only
  cases (all[j]?).bind (·.dst)with
  | none=>rfl
  | some d =>
   simp only
   cases hb:st.fr.getD d .undef with
   | bool b =>
    have e:(⟨st.fr.set d (.bool b),st.hp⟩:St)=st:=by rw[set_same hb (by simp)]
    cases b <;> cases want <;> simp[e]
   | tuple vs=>cases vs <;> rfl
   | _=>rfl
theorem II {ops:Array Oper} {o:Oper} {st:St} {a:Act} (jz:N6 w c st a) {run skip:St→Option R} {r:R} (hk:zH ops.toList o st run skip=some r) :
  (Region.wanted o (yielded ops a.tmps)=true∧run st=some r)∨(Region.wanted o (yielded ops a.tmps)=false∧skip st=some r):=by
 rw[Fz]at hk
 unfold Region.wanted
 split at hk
 ·rename_i hg; simp only[hg]; exact .inl ⟨trivial,hk⟩
 ·rename_i j want hg
  simp only[hg]
  split at hk <;> try (first|cases hk)
  rename_i d hd
  have hl:∀v,st.fr.getD d .undef=v→v ≠ .undef→d<st.fr.length:=fun v hv ju=>by
   rcases Nat.lt_or_ge d st.fr.length with hl|hl
   ·exact hl
   ·simp[List.getD,List.getElem?_eq_none hl]at hv; exact (ju hv.symm).elim
  have key:∀v,st.fr.getD d .undef=v→v ≠ .undef→∃x,a.tmps[d]? = some x∧eG w st.hp c v x:=fun v hb ju=>by
   have hl:=hl v hb ju
   have VE:d<a.tmps.size:=by rw[←(by simpa using jz.fr.1:st.fr.length=a.tmps.size)]; exact hl
   exact ⟨a.tmps[d],Array.getElem?_eq_getElem VE,jz.fr.2 d v a.tmps[d] (by rw[List.getElem?_eq_getElem hl]; simpa [List.getD,List.getElem?_eq_getElem hl]using hb) (by simp)⟩
  have hd':(ops[j]?).bind (·.dst)=some d:=by simpa using hd
  split at hk <;> try (first|cases hk)
  ·rename_i b hb
   obtain ⟨x,hx,rv⟩:=key _ hb (by simp)
   have hy:yielded ops a.tmps j=some b:=by
    unfold yielded
    rw[hd']
    simp only[Option.bind_some,hx]
    cases rv
    rfl
   rw[hy]
   split at hk
   ·rename_i hw; subst hw; exact .inl ⟨by simp,hk⟩
   ·rename_i hw; exact .inr ⟨by simpa using hw,hk⟩
  ·rename_i hb
   obtain ⟨x,hx,rv⟩:=key _ hb (by simp)
   have hy:yielded ops a.tmps j=none:=by
    unfold yielded
    rw[hd']
    simp only[Option.bind_some,hx]
    cases rv
    rfl
   rw[hy]
   exact .inr ⟨by simp,hk⟩
theorem QD:eG w h c (.tuple []) undef := .tuple rfl (by simp)
def Goes (w:World) (c:lj) (st:St) (a:Act) (k:St→Option R) (r:R) (K:Act→World→Prop):Prop :=
 ∀a' w' wW c',N6 w' c' wW a'→Ext w st.hp c w' wW.hp c'→a'.defers=a.defers→k wW=some r→K a' w'
def Slots (tt:eF) (rest:List Oper) (id:Nat) (h:aO):Prop:=∀j,id≤j→j<id+(rest.filter (cw tt)).length→j<h.length∧h.at j = .free
theorem N7 (T:A6 P tt) {E:Env R} (hE:EOk P E) {ops:Array Oper} {k:St→Option R} {r:R} {Q:Exit→Act→World→Prop}:∀(rest:List Oper) (n id:Nat) (w:World) (c:lj) (st:St) (a:Act),
  ops.toList.drop n=rest→Tr tt E none ops.toList rest id st k=some r→N6 w c st a→Slots tt rest id st.hp→Goes w c st a k r (Q .normal)→wpOps P ops Q (List.range' n rest.length) a w
 | [],n,id,w,c,st,a,_,hk,jz,_,go=>go a w st c jz (.refl _ _ _) rfl hk
 | o::rest,n,id,w,c,st,a,hd,hk,jz,hs,go=>by
  have hn:ops[n]? = some o:=by
   have:(ops.toList.drop n)[0]? = some o:=by rw[hd]; rfl
   rw[List.getElem?_drop]at this
   simpa using this
  have hd':ops.toList.drop (n+1)=rest:=by
   have:(ops.toList.drop n).drop 1=rest:=by rw[hd]; rfl
   rwa [List.drop_drop]at this
  rw[List.length_cons,List.range'_succ,wpOps_cons]
  unfold wpOp
  simp only[hn]
  simp only[Tr,Iy]at hk
  have hsl:∀h',xB (cw tt o) id st.hp h'→Slots tt rest (if cw tt o then id+1 else id) h':=by
   intro h' kp j h1 h2
   cases ha:cw tt o with
   | true =>
    rw[ha]at h1 h2 kp
    simp only[if_true]at h1 h2
    obtain ⟨g1,g2⟩:=hs j (by omega) (by rw[List.filter_cons_of_pos ha,List.length_cons]; omega)
    exact ⟨Nat.lt_of_lt_of_le g1 kp.1,kp.2 j (fun _=>by omega) g1 g2⟩
   | false =>
    rw[ha]at h1 h2 kp
    simp only[Bool.false_eq_true,if_false]at h1 h2
    obtain ⟨g1,g2⟩:=hs j (by omega) (by rw[List.filter_cons_of_neg (by simp[ha])]; omega)
    exact ⟨Nat.lt_of_lt_of_le g1 kp.1,kp.2 j (fun h=>by cases h) g1 g2⟩
  rcases II jz hk with ⟨hw,hk⟩|⟨hw,hk⟩
  ·rw[if_pos hw]
   refine .inl (Lb T hE hk jz (fun ha=>hs id (Nat.le_refl _) (by rw[List.filter_cons_of_pos ha,List.length_cons]; omega)) fun d w' wW c' v sim' x kp _ _ _ uQ => ?_)
   refine N7 T hE rest (n+1) _ w' c' wW _ hd' uQ sim' (hsl _ kp) fun a2 w2 Gj c2 s2 x2 d2 k2 => ?_
   exact go a2 w2 Gj c2 s2 (x.trans x2) (d2.trans (put_defers _ _ _)) k2
  ·rw[if_neg (by simp[hw])]
   refine N7 T hE rest (n+1) _ w c ⟨ow st.fr o.dst (.tuple []),st.hp⟩ _ hd' hk ⟨jz.wf,E0 jz.fr _ QD⟩ (hsl _ (.refl _ _ _)) fun a2 w2 Gj c2 s2 x2 d2 k2 => ?_
   exact go a2 w2 Gj c2 s2 x2 (d2.trans (put_defers _ _ _)) k2
theorem S3 {n i:Nat}:aO.at (h++List.replicate n .free) i=h.at i∨(h.length≤i∧aO.at (h++List.replicate n .free) i = .free):=by
 rcases Nat.lt_or_ge i h.length with hi|hi
 ·exact .inl (mn hi)
 ·rcases Nat.lt_or_ge (i - h.length) n with hj|hj
  ·refine .inr ⟨hi,?_⟩
   rw[kV hi]
   simp[aO.at,List.getD,List.getElem?_replicate,hj]
  ·refine .inl ?_
   rw[kV hi]
   have h1:¬(i - h.length<n):=by omega
   have h2:¬(i<h.length):=by omega
   simp[aO.at,List.getD,List.getElem?_replicate,h1,List.getElem?_eq_none hi]
theorem at_out {i:Nat} (hi:h.length≤i):h.at i = .dead:=by simp[aO.at,List.getD,List.getElem?_eq_none hi]
theorem T1 {n b x:Nat}:wX (h++List.replicate n .free) c b x↔wX h c b x:=by
 constructor
 ·rintro ⟨i,f,h1,h2,h3⟩
  rcases S3 (h:=h) (n:=n) (i:=i)with e|⟨_,e⟩
  ·exact ⟨i,f,h1,e▸h2,h3⟩
  ·rw[e]at h2; cases h2
 ·rintro ⟨i,f,h1,h2,h3⟩
  rcases S3 (h:=h) (n:=n) (i:=i)with e|⟨hi,e⟩
  ·exact ⟨i,f,h1,e.symm▸h2,h3⟩
  ·rw[at_out hi]at h2; cases h2
theorem wY (n:Nat):Ext w h c w (h++List.replicate n .free) c where
 os:=rfl
 tape:=rfl
 output:=rfl
 size:=Nat.le_refl _
 used:=fun i hi=>⟨by simp; have:=hi.1; omega,by
  rw[mn hi.1]; exact hi.2⟩
 same:=fun i hi hd=>by
  rw[mn hi.1]at hd ⊢
  exact ⟨HS (Me hi.2 hd) (fun _ _ _ => .inr trivial),rfl,rfl⟩
 cell:=fun _ _ _ _=>rfl
 block:=fun _ _ _=>rfl
 AP:=fun b x _ ho=>T1.1 ho
 ext:=rfl
 arr:=fun b arr e fz hb=>⟨arr,fz,hb,rfl⟩
theorem Lc (wf:WF w h c) (n:Nat):WF w (h++List.replicate n .free) c where
 lay:=wf.vF (wY n)
 Cc:=fun b x ho=>wf.Cc b x (T1.1 ho)
 sL:=wf.sL
 obj:=fun i hi=>by
  rcases S3 (h:=h) (n:=n) (i:=i)with e|⟨_,e⟩
  ·rw[e]
   rcases Nat.lt_or_ge i h.length with hl|hl
   ·have ho:=wf.obj i hl
    by_cases hv:(h.at i).live
    ·exact ho.zC (wY n) (fun _ _=>rfl) rfl rfl
    ·have h0:h.at i = .free∨h.at i = .dead:=by revert hv; cases h.at i <;> simp[cj.live]
     rcases h0 with h0|h0 <;> rw[h0] <;> trivial
   ·rw[at_out hl]; trivial
  ·rw[e]; trivial
 inj:=fun i j b hi hj h1 h2=>by
  have hl:∀i,(aO.at (h++List.replicate n .free) i).live→(h.at i).live:=fun i hi=>by
   rcases S3 (h:=h) (n:=n) (i:=i)with e|⟨_,e⟩
   ·rw[e]at hi; exact hi
   ·rw[e]at hi; exact hi.elim
  exact wf.inj i j b (hl i hi) (hl j hj) h1 h2
theorem XM (T:A6 P tt) {E:Env R} (hE:EOk P E) {id:Nat} {ops:Array Oper} {k:St→Option R} {r:R} {Q:Exit→Act→World→Prop} {st:St} {a:Act}
  (hk:Mc tt E ops.toList false st k=some r) (jz:N6 w c st a) (go:Goes w c st a k r (Q .normal)):(Code.region id ops false).wp P Q a w:=by
 refine wp_region ?_
 simp only[Mc,Bool.false_eq_true,if_false]at hk
 have:=N7 T hE (ops:=ops) (Q:=Q) ops.toList 0 st.hp.length w c _ a rfl hk ⟨Lc jz.wf _,jz.fr.mono (wY _)⟩ ?_ ?_
 ·rw[List.range_eq_range']
  simpa using this
 ·intro j h1 h2
  refine ⟨by simp; omega,?_⟩
  rw[kV h1]
  have:j - st.hp.length<(ops.toList.filter (cw tt)).length:=by omega
  simp[aO.at,List.getD,List.getElem?_replicate,this]
 ·exact fun a2 w2 Gj c2 s2 x2 d2 k2=>go a2 w2 Gj c2 s2 ((wY _).trans x2) d2 k2
end
section
variable {P:Program} {tt:eF} {w w':World} {h h':aO} {c c':lj} {R:Type}
def one (tt:eF) (E:Env R) (S:Option (Bool × List Nat)) (base:Nat) (all:List Oper) (o:Oper) (id:Nat) (st:St) (k:St→Option R):Option R :=
 zH all o st (fun st=>bif NX tt E base S all o (ev st.fr) st.hp then DC tt E (drS tt S base o) id o st k else none) (fun st=>k ⟨ow st.fr o.dst (.tuple []),st.hp⟩)
abbrev AD:=Nat × Oper × Nat
def Ka (tt:eF) (E:Env R) (S:Option (Bool × List Nat)) (base:Nat) (all:List Oper):List AD→St→(St→Option R)→Option R
 | [],st,k=>k st
 | x::rest,st,k=>one tt E S base all x.2.1 x.2.2 st fun st=>Ka tt E S base all rest st k
def number (tt:eF):List Oper→Nat→Nat→List AD
 | [],_,_ => []
 | o::rest,i,id=>(i,o,id)::number tt rest (i+1) (if cw tt o then id+1 else id)
theorem XO {E:Env R} {base:Nat} {all:List Oper}:∀(l:List Oper) (i id:Nat) (st:St) (k:St→Option R),
  Tr tt E (some base) all l id st k=Ka tt E none base all (number tt l i id) st k
 | [],_,_,_,_=>rfl
 | o::l,i,id,st,k=>by
  simp only[Tr,Iy,number,Ka,one,NX,drS,cond_true]
  congr 1
  ·funext st
   congr 1
   funext st
   exact XO l _ _ _ _
  ·funext st
   exact XO l _ _ _ _
theorem S4 {E:Env R} {A:Bool × List Nat} {base:Nat} {all:List Oper}:∀(l:List Oper) (i id:Nat) (st:St) (k:St→Option R),
  YX tt E base A all l id st k=Ka tt E (some A) base all (number tt l i id) st k
 | [],_,_,_,_=>rfl
 | o::l,i,id,st,k=>by
  simp only[YX,Iy,number,Ka,one]
  congr 1
  ·funext st
   congr 1
   congr 1
   funext st
   exact S4 l _ _ _ _
  ·funext st
   exact S4 l _ _ _ _
theorem XP {S:Option (Bool × List Nat)} {base:Nat} {o:Oper} (h:gv tt o.op ≠ .W):drS tt S base o=some base:=by
 unfold drS
 split
 ·split
  ·rename_i hc; exact (h hc).elim
  ·rfl
 ·rfl
theorem ZD {S:Option (Bool × List Nat)} {base:Nat} {o:Oper} (h:S.map (·.1)≠some true):drS tt S base o=some base:=by
 unfold drS
 split
 ·exact (h rfl).elim
 ·rfl
structure Eff where
 dst:Option Nat
 v:V
 put:Option (Nat × cj)
def Eff.hp (e:Eff) (h:aO):aO:=match e.put with|none=>h|some (i,ob)=>h.set i ob
def eff (st:St) (e:Eff):St:=⟨ow st.fr e.dst e.v,e.hp st.hp⟩
theorem WA {fr:List V} {dst:Option Nat} {v:V} {t:Nat} (h:dst≠some t):(ow fr dst v).getD t .undef=fr.getD t .undef:=by
 cases dst with
 | none=>rfl
 | some d =>
  have:d≠t:=fun e=>h (by rw[e])
  simp[ow,List.getD,List.getElem?_set_ne this]
theorem putF_comm {fr:List V} {x y:Option Nat} {u v:V} (h:∀d,x=some d→y≠some d):ow (ow fr x u) y v=ow (ow fr y v) x u:=by
 cases x with
 | none=>rfl
 | some d =>
  cases y with
  | none=>rfl
  | some e =>
   have:d≠e:=fun he=>h d rfl (by rw[he])
   simp only[ow]
   exact List.set_comm _ _ this
theorem HU {fr fr':List V} {o:Oper} {all:List Oper} (h:∀t∈looks all o,fr'.getD t .undef=fr.getD t .undef):∀x∈o.op.operands,ev fr' x=ev fr x:=by
 intro x hx
 cases x with
 | tmp t=>exact h t (List.mem_append_left _ (List.mem_filterMap.2 ⟨.tmp t,by simpa using hx,rfl⟩))
 | _=>rfl
theorem T2 {fr fr':List V} {hp hp':aO} {o:Oper} {all:List Oper} (h:∀t∈looks all o,fr'.getD t .undef=fr.getD t .undef) {run skip run' T3:St→Option R}
  (hr:run' ⟨fr',hp'⟩=run ⟨fr,hp⟩) (hs:T3 ⟨fr',hp'⟩=skip ⟨fr,hp⟩):zH all o ⟨fr',hp'⟩ run' T3=zH all o ⟨fr,hp⟩ run skip:=by
 rw[Fz,Fz]
 cases hg:o.guard with
 | none=>exact hr
 | some jw =>
  obtain ⟨j,want⟩:=jw
  simp only
  cases hd:(all[j]?).bind (·.dst)with
  | none=>rfl
  | some d =>
   have:=h d (by
    refine List.mem_append_right _ ?_
    simp only[hg,hd]
    simp)
   simp only[this,hr,hs]
theorem ZE {o:Op} {ρ:Operand→V} {lim:Option Nat} {h2:aO} (e:∀i∈A8 o ρ,JS lim i=true→(h2.at i).rd=(h.at i).rd) {k:V→Option R}:opR tt o ρ h2 lim k=opR tt o ρ h lim k:=by
 have e':∀i∈A8 o ρ,JS lim i=true→h2.at i=h.at i∨((h2.at i = .tok∨h2.at i = .dead∨h2.at i = .free)∧(h.at i = .tok∨h.at i = .dead∨h.at i = .free)):=fun i hm hi=>Zy (e i hm hi)
 clear e
 cases o <;> simp only[opR]
 case load t x =>
  split
  ·rename_i i o hx
   split
   ·rename_i hl
    rcases e' i (by simp[A8,hx,V.ids]) hl with h1|⟨h1|h1|h1,g2|g2|g2⟩ <;> (first|(simp only[h1,g2]; done)|(simp only[h1]; done)|rfl|(simp only[h1,g2]; (repeat' split) <;> first|rfl|contradiction|simp_all))
   ·rfl
  ·rfl
  ·rename_i i _ _ _ hx
   split
   ·rename_i hl
    rcases e' i (by simp[A8,hx,V.ids]) hl with h1|⟨h1|h1|h1,g2|g2|g2⟩ <;> (first|(simp only[h1,g2]; done)|(simp only[h1]; done)|(simp only[h1,g2]; (repeat' split) <;> first|rfl|contradiction|simp_all))
   ·rfl
  ·rfl
 case lookup t x ix ok =>
  split
  ·rename_i kt vt i _ hx
   split
   ·rename_i hl
    rcases e' i (by simp[A8,hx,V.ids]) hl with h1|⟨h1|h1|h1,g2|g2|g2⟩ <;> (first|simp only[h1,g2]|simp only[h1])
   ·rfl
  ·rfl
 case convert s d x =>
  split
  ·rename_i i _ _ _ hx
   split
   ·rename_i hl
    rcases e' i (by simp[A8,hx,V.ids]) hl with h1|⟨h1|h1|h1,g2|g2|g2⟩ <;> (first|(simp only[h1,g2]; done)|(simp only[h1]; done)|(simp only[h1,g2]; (repeat' split) <;> first|rfl|contradiction|simp_all))
   ·rfl
  ·rfl
  ·rfl
  ·rfl
def GK (S:Option (Bool × List Nat)) (E:Env R) (all:List Oper) (tt:eF) (base:Nat) (x:Oper) (st Gj:St):Prop :=
 (∀t∈looks all x,Gj.fr.getD t .undef=st.fr.getD t .undef)∧(gv tt x.op = .R→∀i,i<base→(∀A,S=some (true,A)→farR tt E all x=true→i∈A)→(∀A,S=some (false,A)→Wf tt E all x=true→i∉A)→(Gj.hp.at i).rd=(st.hp.at i).rd)
def turns (tt:eF) (E:Env R) (o:Op):Prop:=(fc tt E o = .W∧sK o=false)∨(fc tt E o = .F∧ox E o=false)
def Kept (S:Option (Bool × List Nat)) (tt:eF) (E:Env R) (all:List Oper) (base:Nat) (o:Oper) (h h':aO):Prop :=
 (∀i,i<base→(h'.at i).rd=(h.at i).rd)∨((turns tt E o.op∨(S.map (·.1)=some true∧sK o.op=true))∧(fc tt E o.op = .F→∀A,S=some (true,A)→∀i∈A,(h'.at i).rd=(h.at i).rd)∧(mh all o=true→∀A,S=some (false,A)→∀i,i∉A→(h'.at i).rd=(h.at i).rd))
theorem uT {E:Env R} {o:Op} (h:gv tt o ≠ .C):fc tt E o=gv tt o:=by
 unfold fc
 split
 ·rename_i hc; exact (h hc).elim
 ·rfl
def calm (a:Cls):Bool:=match a with | .P | .R | .A=>true|_=>false
theorem VH {o:Op} {ρ ρ':Operand→V} (h:∀x∈o.operands,ρ' x=ρ x):A8 o ρ'=A8 o ρ:=by
 cases o <;> simp only[A8] <;> rw[h _ (by simp[Op.operands])]
theorem T4 {o:Op} {ρ ρ':Operand→V} (h:∀x∈o.operands,ρ' x=ρ x):FH o ρ'=FH o ρ:=by
 cases o <;> simp only[FH] <;> rw[h _ (by simp[Op.operands])]
theorem VI {o:Op} {ρ ρ':Operand→V} {hp:aO} (h:∀x∈o.operands,ρ' x=ρ x):oH o ρ' hp=oH o ρ hp:=by
 unfold oH
 split
 ·rename_i cl
  split
  ·rename_i f hf
   have e1:ρ' f=ρ f:=h f (by simp[Op.operands,Call.operands,hf])
   have e2:cl.args.toList.map ρ'=cl.args.toList.map ρ:=List.map_congr_left fun z hz=>h z (by simp[Op.operands,Call.operands]; exact .inr (by simpa using hz))
   rw[e1,e2]
  ·rfl
 ·rfl
theorem WB {E:Env R} {base:Nat} {S:Option (Bool × List Nat)} {all:List Oper} {x:Oper} {fr fr':List V} {hp:aO} (h:∀t∈looks all x,fr'.getD t .undef=fr.getD t .undef):NX tt E base S all x (ev fr') hp=NX tt E base S all x (ev fr) hp:=by
 cases S with
 | none=>rfl
 | some A=>obtain ⟨m,A⟩:=A; cases m <;> simp only[NX] <;> rw[VH (HU h),T4 (HU h)] <;> rw[VI (HU h)]
theorem okS_calm {E:Env R} {base:Nat} {S:Option (Bool × List Nat)} {all:List Oper} {x:Oper} {fr fr':List V} {hp hp':aO} (hc:calm (gv tt x.op)=true) (h:∀t∈looks all x,fr'.getD t .undef=fr.getD t .undef):NX tt E base S all x (ev fr') hp'=NX tt E base S all x (ev fr) hp:=by
 rw[WB (fr:=fr) h]
 cases S with
 | none=>rfl
 | some A =>
  obtain ⟨m,A⟩:=A
  cases m <;> simp only[NX] <;> revert hc <;> cases gv tt x.op <;> simp[calm]
theorem one_nat {E:Env R} {S:Option (Bool × List Nat)} {base:Nat} {all:List Oper} {x:Oper} {id:Nat} {st:St} {k0:St→Option R} {r:R} (hc:calm (gv tt x.op)=true) (hk:one tt E S base all x id st k0=some r) :
  ∃e:Eff,e.dst=x.dst∧(∀i ob,e.put=some (i,ob)→i=id∧gv tt x.op = .A)∧k0 (eff st e)=some r∧∀Gj,GK S E all tt base x st Gj→∀k,one tt E S base all x id Gj k=k (eff Gj e):=by
 unfold one at hk ⊢
 -- the guard says the same
 have hgu:∀Gj,GK S E all tt base x st Gj→∀(run skip:St→Option R),zH all x Gj run skip=zH all x st (fun _=>run Gj) (fun _=>skip Gj):=by
  intro Gj ha run skip
  obtain ⟨fr,hp⟩:=st
  obtain ⟨fr2,hp2⟩:=Gj
  exact T2 ha.1 rfl rfl
 have hsame:∀run skip:St→Option R,(∀run' T3:St→Option R,zH all x st run' T3=run' st)∨(∀run' T3:St→Option R,zH all x st run' T3=T3 st)∨zH all x st run skip=none:=by
  intro run skip
  simp only[Fz]
  cases x.guard with
  | none=>exact .inl fun _ _=>rfl
  | some jw =>
   obtain ⟨j,want⟩:=jw
   simp only
   cases (all[j]?).bind (·.dst)with
   | none=>exact .inr (.inr rfl)
   | some d =>
    simp only
    cases st.fr.getD d .undef with
    | bool b=>by_cases hb:b=want <;> simp[hb]
    | tuple vs =>
     cases vs with
     | nil=>exact .inr (.inl fun _ _=>rfl)
     | cons _ _=>exact .inr (.inr rfl)
    | _=>exact .inr (.inr rfl)
 rcases hsame _ _ with hg|hg|hg
 ·rw[hg]at hk
  obtain ⟨hS,hk⟩:NX tt E base S all x (ev st.fr) st.hp=true∧DC tt E (drS tt S base x) id x st k0=some r:=by
   cases hS:NX tt E base S all x (ev st.fr) st.hp with
   | true=>rw[hS]at hk; exact ⟨rfl,hk⟩
   | false=>rw[hS]at hk; cases hk
  have hnW:gv tt x.op ≠ .W:=fun e=>by rw[e]at hc; cases hc
  rw[XP hnW]at hk ⊢
  have hS2:∀Gj,GK S E all tt base x st Gj→NX tt E base S all x (ev Gj.fr) Gj.hp=true:=fun Gj ha=>by rw[←hS]; exact okS_calm hc ha.1
  unfold DC at hk
  simp only at hk
  split at hk
  ·rename_i FQ
   obtain ⟨v,h1,h2⟩:=opP_nat hk
   refine ⟨⟨x.dst,v,none⟩,rfl,by simp,h1,fun Gj ha k => ?_⟩
   rw[hgu Gj ha,hg,hS2 Gj ha,cond_true]
   simp only[DC,FQ]
   rw[Ws (HU ha.1),h2]
   rfl
  ·rename_i FQ
   obtain ⟨v,h1,h2⟩:=opR_nat hk
   refine ⟨⟨x.dst,v,none⟩,rfl,by simp,h1,fun Gj ha k => ?_⟩
   rw[hgu Gj ha,hg,hS2 Gj ha,cond_true]
   simp only[DC,FQ]
   rw[Wu (HU ha.1),ZE (h:=st.hp) fun i hm hi=>ha.2 FQ i (by simpa [JS]using hi) (fun A hA hf => ?_) fun A hA hf => ?_,h2 _ fun i hi=>rfl]
   ·rfl
   ·subst hA
    simp only[NX,FQ,hf,Bool.not_true,Bool.false_or,List.all_eq_true]at hS
    simpa using hS i hm
   ·subst hA
    simp only[NX,FQ,hf,Bool.not_true,Bool.false_or,List.all_eq_true]at hS
    simpa using hS i hm
  ·rename_i FQ
   obtain ⟨ob,mk,h1,h2⟩:=opA_nat hk
   refine ⟨⟨x.dst,mk id,some (id,ob)⟩,rfl,by simp[FQ],h1,fun Gj ha k => ?_⟩
   rw[hgu Gj ha,hg,hS2 Gj ha,cond_true]
   simp only[DC,FQ]
   rw[Wv (HU ha.1),h2]
   rfl
  all_goals (rename_i FQ; rw[FQ]at hc; cases hc)
 ·rw[hg]at hk
  refine ⟨⟨x.dst, .tuple [],none⟩,rfl,by simp,hk,fun Gj ha k => ?_⟩
  rw[hgu Gj ha,hg]
  rfl
 ·rw[hg]at hk; cases hk
theorem apart_spec {all:List Oper} {x y:Oper} (h:Cr all x y=true) :
  (∀d,x.dst=some d→d∉looks all y)∧(∀d,x.dst=some d→y.dst≠some d)∧(∀d,y.dst=some d→d∉looks all x):=by
 refine ⟨fun d hd => ?_,fun d hd => ?_,fun d hd => ?_⟩ <;> simp[Cr,hd]at h
 ·exact h.1.1
 ·exact h.1.2
 ·exact h.2
theorem IJ {fr:List V} {c:Value} {g:Nat} {a b:List V} (h:ev fr (.const c) = .func g a b):False:=by
 simp only[ev]at h
 unfold ofConst at h
 split at h
 ·cases h
 ·unfold K2 at h
  split at h <;> (try split at h) <;> cases h
theorem N8 {i:Nat}:∀(n:Nat) (todo seen:List Nat),i∈seen→i∈reach h n todo seen
 | 0,_,_,hi=>hi
 | _+1, [],_,hi=>hi
 | n+1,j::todo,seen,hi=>by
  unfold reach
  split
  ·exact N8 n _ _ hi
  ·exact N8 n _ _ (by simp[hi])
theorem Mg {i:Nat} {ob:cj}:∀(n:Nat) (todo seen:List Nat),i∉reach h n todo seen→reach (h.set i ob) n todo seen=reach h n todo seen
 | 0,_,_,_=>rfl
 | _+1, [],_,_=>rfl
 | n+1,j::todo,seen,hi=>by
  unfold reach at hi ⊢
  split
  ·rename_i hc
   rw[if_pos hc]at hi
   exact Mg n _ _ hi
  ·rename_i hc
   rw[if_neg hc]at hi
   have ju:i≠j:=by
    rintro rfl
    exact hi (N8 n _ _ (by simp))
   rw[dt _ ju]
   exact Mg n _ _ hi
theorem set_set {i:Nat} {ob:cj}:(h.set i ob).set i (h.at i)=h:=by
 rw[List.set_set]
 apply List.ext_getElem?
 intro j
 rw[List.getElem?_set]
 split
 ·rename_i e
  subst e
  split
  ·rename_i hl
   simp[aO.at,List.getD,List.getElem?_eq_getElem hl]
  ·rename_i hl
   exact (List.getElem?_eq_none (by omega)).symm
 ·rfl
theorem Rx {o:Op} {ρ:Operand→V} {i:Nat} {ob:cj} (hi:i∉oH o ρ h):oH o ρ (h.set i ob)=oH o ρ h:=by
 unfold oH at hi ⊢
 split at hi <;> try rfl
 split at hi <;> try rfl
 split at hi <;> try rfl
 exact Mg _ _ _ hi
theorem XQ {o:Op} {ρ:Operand→V} {i:Nat} {ob:cj} (hi:i∉oH o ρ (h.set i ob)):oH o ρ (h.set i ob)=oH o ρ h:=by
 have h1:=Rx (ob:=h.at i) hi
 rw[set_set]at h1
 exact h1.symm
theorem pick_set {i:Nat} {ob:cj} {ord:List Nat} (hi:i∉ord):aO.pick (h.set i ob) ord=h.pick ord:=by
 unfold aO.pick
 refine List.map_congr_left fun j hj => ?_
 rw[dt _ (by rintro rfl; exact hi hj)]
theorem T5 {i:Nat} {ob:cj}:∀(l:List (Nat × cj)) (h:aO),(∀x∈l,x.1≠i)→aO.D6 (h.set i ob) l=(aO.D6 h l).set i ob
 | [],_,_=>rfl
 | x::l,h,hl=>by
  simp only[aO.D6]
  rw[List.set_comm _ _ (Ne.symm (hl x (by simp)))]
  exact T5 l _ fun y hy=>hl y (by simp[hy])
theorem back_set {i:Nat} {ob:cj} {ord:List Nat} (hi:i∉ord) (hl:i<h.length) (h':aO):aO.back (h.set i ob) ord h'=(h.back ord h').set i ob:=by
 unfold aO.back
 simp only[List.length_set]
 rw[T5 _ _ fun x hx=>by
  have:=(List.of_mem_zip hx).1
  rintro rfl
  exact hi this]
 rw[List.set_append_left _ _ (by rw[gK]; exact hl)]
theorem callK_set {E:Env R} {cl:Call} (hp:qE E (.call cl)=false) (hs:ox E (.call cl)=false) {full:Bool} {fr:List V} {i:Nat} {ob:cj} (hi:i∉oH (.call cl) (ev fr) h) (hl:i<h.length) {k:V→aO→Option R} :
  Cm tt E full cl (ev fr) (h.set i ob) k=Cm tt E full cl (ev fr) h fun v h'=>k v (h'.set i ob):=by
 unfold Cm
 split
 ·rename_i f hf
  split
  ·rename_i g first cap hg
   simp only
   have TY:oH (.call cl) (ev fr) h=reach h 64 (V.wm (first++cl.args.toList.map (ev fr)++cap)) []:=by simp only[oH,hf,hg]
   rw[TY]at hi
   split
   ·exfalso
    rename_i O7
    cases f with
    | tmp t=>simp[qE,hf]at hp
    | func g' =>
     simp only[ev,V.func.injEq]at hg
     obtain ⟨rfl,_,_⟩:=hg
     simp[qE,hf,O7]at hp
    | const c=>exact IJ hg
    | global _=>simp[ev]at hg
   ·rename_i sp O7
    cases full
    ·rfl
    ·simp only[cond_true]
     cases hg0:qT.soft g with
     | true =>
      exfalso
      cases f with
      | tmp t=>simp[qE,hf]at hp
      | func g' =>
       simp only[ev,V.func.injEq]at hg
       obtain ⟨rfl,_,_⟩:=hg
       simp[ox,hf,hg0,O7]at hs
      | const c=>exact IJ hg
      | global _=>simp[ev]at hg
     | false =>
      simp only[cond_false]
      rw[Mg _ _ _ hi,pick_set hi]
      congr 1
      funext v h'
      rw[back_set hi hl,List.length_set]
   ·rfl
  ·rfl
 ·rfl
theorem ZF {E:Env R} {cl:Call} {full:Bool} {ρ ρ':Operand→V} (WC:∀z∈cl.operands,ρ' z=ρ z) {k:V→aO→Option R}:Cm tt E full cl ρ' h k=Cm tt E full cl ρ h k:=by
 have hargs:cl.args.toList.map ρ'=cl.args.toList.map ρ:=List.map_congr_left fun z hz=>WC z (by simp[Call.operands]; exact .inr (by simpa using hz))
 unfold Cm
 split
 ·rename_i f hf
  rw[WC f (by simp[Call.operands,hf]),hargs]
 ·rfl
theorem one_eff {E:Env R} {S:Option (Bool × List Nat)} {base:Nat} {all:List Oper} {x y:Oper} {e:Eff} {ix id:Nat} (KY:Nc (fc tt E x.op) (fc tt E y.op)=true∨(sK y.op=true∧S.map (·.1)≠some true∧(cw tt x=true→id<ix))∨(gv tt x.op = .R∧sK y.op=true)∨(gv tt x.op = .R∧ox E y.op=true)∨(gv tt x.op = .R∧fc tt E y.op = .F)∨(gv tt x.op = .A∧S.map (·.1)=some true∧fc tt E y.op = .F∧ox E y.op=false)∨(gv tt x.op = .R∧gv tt y.op = .W)) (hap:Cr all x y=true) (hc:calm (gv tt x.op)=true) (he:e.dst=x.dst)
  (ZG:∀i ob,e.put=some (i,ob)→i=ix∧gv tt x.op = .A) (hid:cw tt x=true→cw tt y=true→ix≠id) (hb:cw tt x=true→base≤ix) (ht:cw tt x=true→ix<base+(all.filter (cw tt)).length) (st:St) (k:St→Option R) :
  one tt E S base all y id (eff st e) k=one tt E S base all y id st fun QE=>k (eff QE e):=by
 obtain ⟨a1,a2,a3⟩:=apart_spec hap
 have hl:∀t∈looks all y,(ow st.fr e.dst e.v).getD t .undef=st.fr.getD t .undef:=fun t ht=>WA fun h=>a1 t (he▸h) ht
 have Ry:∀u,ow (ow st.fr e.dst e.v) y.dst u=ow (ow st.fr y.dst u) e.dst e.v:=fun u=>putF_comm fun d hd=>a2 d (he▸hd)
 obtain ⟨fr,hpp⟩:=st
 simp only at hl Ry
 have hokS:NX tt E base S all y (ev (ow fr e.dst e.v)) (e.hp hpp)=NX tt E base S all y (ev fr) hpp:=by
  rw[WB hl]
  match S,KY with
  | none,_=>rfl
  | some (false,A),_=>simp only[NX]
  | some (true,A),KY =>
   simp only[NX]
   split
   ·rfl
   ·rename_i FR
    cases hf:isF tt E y.op with
    | false=>rfl
    | true =>
     have hF:fc tt E y.op = .F:=by revert hf; unfold isF; cases fc tt E y.op <;> simp
     cases hq:e.put with
     | none=>simp only[Eff.hp,hq]
     | some jo =>
      obtain ⟨j,ob⟩:=jo
      obtain ⟨rfl,hA⟩:=ZG j ob hq
      have hna:sK y.op=true→False:=fun ha=>by rw[GJ ha]at FR; cases FR
      rcases KY with KY|⟨h,_⟩|⟨_,h⟩|⟨h,_⟩|⟨h,_⟩|⟨_,_,_,hsf⟩|⟨h,_⟩
      ·rw[uT (by rw[hA]; simp),hF,hA]at KY
       cases KY
      ·exact (hna h).elim
      ·exact (hna h).elim
      ·rw[hA]at h; cases h
      ·rw[hA]at h; cases h
      ·simp only[Eff.hp,hq,hsf,Bool.not_true,Bool.false_or,List.length_set]
       have hbj:=hb (by simp[cw,hA])
       by_cases hm:j∈oH y.op (ev fr) hpp
       ·have hm2:j∈oH y.op (ev fr) (hpp.set j ob):=by
         by_cases hm2:j∈oH y.op (ev fr) (hpp.set j ob)
         ·exact hm2
         ·rw[XQ hm2]; exact hm
        have Zc:∀l:List Nat,j∈l→l.all (fun i=>Nat.blt i base)=false:=fun l hl=>by
         rw[List.all_eq_false]
         exact ⟨j,hl,by simpa using hbj⟩
        rw[Zc _ hm,Zc _ hm2]
        simp
       ·rw[Rx hm]
      ·rw[hA]at h; cases h
   ·rfl
   ·rfl
 unfold one
 refine T2 hl ?_ ?_
 ·simp only[eff]
  rw[hokS]
  cases hS:NX tt E base S all y (ev fr) hpp with
  | false=>rfl
  | true =>
  simp only[cond_true]
  unfold DC
  simp only
  split
  ·rw[Ws (HU hl)]
   simp only[Ry]
  ·rename_i FR
   rw[XP (by rw[FR]; simp),Wu (HU hl),ZE (h:=hpp)]
   ·simp only[Ry]
   ·intro i _ hi
    unfold Eff.hp
    split
    ·rfl
    ·rename_i j ob hj
     obtain ⟨rfl,hA⟩:=ZG _ _ hj
     have:=hb (by simp[cw,hA])
     simp[JS]at hi
     rw[dt _ (by omega)]
  ·rename_i FR
   rw[Wv (HU hl)]
   simp only[Ry]
   congr 1
   funext ob mk
   congr 2
   unfold Eff.hp
   split
   ·rfl
   ·rename_i j ob' hj
    obtain ⟨rfl,hA⟩:=ZG _ _ hj
    exact List.set_comm _ _ (hid (by simp[cw,hA]) (by simp[cw,FR]))
  ·rename_i FR
   rw[XK (HU hl)]
   cases XL:((drS tt S base y).isSome && !zG y.op (ev fr) id)with
   | true=>rfl
   | false =>
    simp only[cond_false]
    cases hq:e.put with
    | none =>
     rw[Ww (HU hl)]
     simp only[Ry,Eff.hp,hq]
    | some jo =>
     obtain ⟨j,ob⟩:=jo
     obtain ⟨rfl,hA⟩:=ZG j ob hq
     have hy:sK y.op=true∧S.map (·.1)≠some true∧id<j:=by
      rcases KY with h|⟨h,h3,h2⟩|⟨h,_⟩|⟨h,_⟩|⟨h,_⟩|⟨_,_,h,_⟩|⟨h,_⟩
      ·rw[uT (by rw[hA]; simp),uT (by rw[FR]; simp),hA,FR]at h; cases h
      ·exact ⟨h,h3,h2 (by simp[cw,hA])⟩
      ·rw[hA]at h; cases h
      ·rw[hA]at h; cases h
      ·rw[hA]at h; cases h
      ·rw[uT (by rw[FR]; simp),FR]at h; cases h
      ·rw[hA]at h; cases h
     rw[Ww (HU hl)]
     simp only[Ry,Eff.hp,hq]
     have hlow':zG y.op (ev fr) id=true:=by rw[ZD hy.2.1]at XL; simpa using XL
     exact opW_set hy.1 hlow' hy.2.2
  ·rename_i FR
   rw[XP (by rw[FR]; simp)]
   split
   ·rename_i cl hcl'
    simp only[Ry]
    have WC:∀z∈cl.operands,ev (ow fr e.dst e.v) z=ev fr z:=fun z hz=>HU hl z (by rw[hcl']; exact hz)
    have hargs:cl.args.toList.map (ev (ow fr e.dst e.v))=cl.args.toList.map (ev fr):=List.map_congr_left fun z hz=>WC z (by simp[Call.operands]; exact .inr (by simpa using hz))
    cases hpl:qE E y.op with
    | true =>
     have hfull:(Option.isNone (some base) || !true)=false:=rfl
     rw[hcl']at hpl
     rw[hfull]
     unfold Cm
     split
     ·rename_i f hf
      rw[WC f (by simp[Call.operands,hf]),hargs]
      split
      ·split
       ·simp only[cond_false]
       ·rfl
       ·rfl
      ·rfl
     ·rfl
    | false =>
     have hF:fc tt E y.op = .F:=by unfold fc; rw[FR]; simp[hpl]
     rw[ZF WC]
     cases hq:e.put with
     | none =>
      have hh2:∀h2,e.hp h2=h2:=fun h2=>by simp[Eff.hp,hq]
      simp only[hh2]
     | some jo =>
      obtain ⟨j,ob⟩:=jo
      obtain ⟨rfl,hA⟩:=ZG j ob hq
      have hna:sK y.op=true→False:=fun ha=>by rw[GJ ha]at FR; cases FR
      rcases KY with KY|⟨h,_⟩|⟨_,h⟩|⟨h,_⟩|⟨h,_⟩|⟨_,h2,_,hsf⟩|⟨h,_⟩
      ·rw[uT (by rw[hA]; simp),hF,hA]at KY
       cases KY
      ·exact (hna h).elim
      ·exact (hna h).elim
      ·rw[hA]at h; cases h
      ·rw[hA]at h; cases h
      ·have hh2:∀h2,e.hp h2=h2.set j ob:=fun h2=>by simp[Eff.hp,hq]
       simp only[hh2]
       have hif:isF tt E y.op=true:=by unfold isF; rw[hF]
       match S,h2,hS with
       | some (true,A),_,hS =>
        simp only[NX,FR,hif,hsf,Bool.not_true,Bool.false_or,Bool.and_eq_true,List.all_eq_true]at hS
        have hbj:=hb (by simp[cw,hA])
        have htj:=ht (by simp[cw,hA])
        have h3:base+(all.filter (cw tt)).length≤hpp.length:=by simpa using hS.1.1
        rw[hcl']at hpl hsf
        refine callK_set hpl hsf (fun hm => ?_) (by omega)
        have h4:=hS.1.2 j (by rw[hcl']; exact hm)
        simp at h4
        omega
      ·rw[hA]at h; cases h
   ·rfl
  ·rfl
  ·rfl
 ·simp only[eff,Ry]
theorem callK_soft {E:Env R} (hE:EOk P E) {cl:Call} (hs:ox E (.call cl)=true) {full:Bool} {fr:List V} {k k':V→aO→Option R} (he:∀v,k v h=k' v h) :
  Cm tt E full cl (ev fr) h k=Cm tt E full cl (ev fr) h k':=by
 unfold ox at hs
 simp only at hs
 split at hs
 ·rename_i g hg
  simp only[Bool.and_eq_true]at hs
  obtain ⟨h1,h2⟩:=hs
  split at h2
  ·rename_i sp O7
   unfold Cm
   simp only[hg,ev,O7,h1]
   cases full
   ·rfl
   ·simp only[cond_true]
    exact (hE g _ sp O7).2 rfl h1 _ _ _ _ he
  ·cases h2
 ·cases hs
theorem callK_back {E:Env R} {cl:Call} (hp:qE E (.call cl)=false) (hs:ox E (.call cl)=false) {full:Bool} {fr:List V} {k k':V→aO→Option R}
  (he:∀v h',(∀i,i<h.length→i∉oH (.call cl) (ev fr) h→h'.at i=h.at i)→k v h'=k' v h') (h0:∀v,k v h=k' v h):Cm tt E full cl (ev fr) h k=Cm tt E full cl (ev fr) h k':=by
 unfold Cm
 split
 ·rename_i f hf
  split
  ·rename_i g first cap hg
   simp only
   split
   ·split
    ·congr 1
     funext v h'
     cases h' with
     | nil=>exact h0 v
     | cons _ _=>rfl
    ·cases full
     ·rfl
     ·simp only[cond_true]
      unfold lendK
      split
      ·congr 1
       funext v h'
       cases h' with
       | nil=>simp only[h0]
       | cons _ _=>rfl
      ·rfl
   ·rename_i sp O7
    cases full
    ·rfl
    ·simp only[cond_true]
     cases hg0:qT.soft g with
     | true =>
      exfalso
      cases f with
      | tmp t=>simp[qE,hf]at hp
      | func g' =>
       simp only[ev,V.func.injEq]at hg
       obtain ⟨rfl,_,_⟩:=hg
       simp[ox,hf,hg0,O7]at hs
      | const c=>exact IJ hg
      | global _=>simp[ev]at hg
     | false =>
      simp only[cond_false]
      congr 1
      funext v h'
      refine he _ _ fun i hi hn => ?_
      unfold aO.back
      simp only
      rw[mn (by rw[gK]; exact hi)]
      refine IH _ _ _ ?_
      simpa only[oH,hf,hg]using hn
   ·rfl
  ·rfl
 ·rfl
theorem FA {all:List Oper} {x:Oper} (h:mh all x=true∨uP all x=true):∃t a y,x.op = .store t a y∧x.dst=none∧x.guard=none:=by
 rcases h with h|h
 ·unfold mh at h
  split at h
  ·rename_i ho
   simp only[Bool.and_eq_true,Option.isNone_iff_eq_none]at h
   exact ⟨_,_,_,ho,h.1.1,h.1.2⟩
  ·cases h
 ·unfold uP at h
  split at h
  ·rename_i ho
   simp only[Bool.and_eq_true,Option.isNone_iff_eq_none]at h
   exact ⟨_,_,_,ho,h.1.1,h.1.2⟩
  ·cases h
theorem Mh {all:List Oper} {x y:Oper} (h:farW all x y=true):(mh all x=true∧uP all y=true)∨(uP all x=true∧mh all y=true):=by
 simpa only[farW,Bool.or_eq_true,Bool.and_eq_true]using h
theorem HV {all:List Oper} {x y:Oper} (h:farW all x y=true):gv tt x.op = .W∧gv tt y.op = .W:=by
 have h1:∀z,mh all z=true∨uP all z=true→gv tt z.op = .W:=fun z hz=>by
  obtain ⟨t,a,y,e,_⟩:=FA hz
  rw[e]; rfl
 rcases Mh h with ⟨h2,h3⟩|⟨h2,h3⟩
 ·exact ⟨h1 _ (.inl h2),h1 _ (.inr h3)⟩
 ·exact ⟨h1 _ (.inr h2),h1 _ (.inl h3)⟩
theorem Rz (t:Nat) (a y:Operand) (ρ:Operand→V) (h:aO) (id:Nat) :
  (∀k:V→aO→Option R,SX tt (.store t a y) ρ h id k=none)∨∃i ob,i∈(ρ a).ids∧∀(h2:aO) (id2:Nat) (k:V→aO→Option R),h2.at i=h.at i→SX tt (.store t a y) ρ h2 id2 k=k .undef (h2.set i ob):=by
 simp only[SX]
 cases hvs:Wd (ρ y)with
 | none=>exact .inl fun k=>rfl
 | some vs =>
 simp only
 by_cases hc:(tt.ok t&&decide (vs.length=(tt.at t).size))=true
 rotate_left
 ·exact .inl fun k=>by rw[if_neg hc]
 simp only[hc,if_true]
 cases hx:ρ a with
 | ptr i o =>
  simp only
  cases hi:h.at i with
  | cells cs =>
   by_cases hle:o+vs.length≤cs.length
   ·exact .inr ⟨i, .cells (D9 cs o vs),by simp[V.ids],fun h2 id2 k e=>by simp only[e,hi,hle,if_true]⟩
   ·exact .inl fun k=>by simp only[hle,if_false]
  | oG bv =>
   match o,vs with
   | 1, [v]=>exact .inr ⟨i, .oG v,by simp[V.ids],fun h2 id2 k e=>by simp only[e,hi]⟩
   | 0,_=>exact .inl fun k=>rfl
   | 1, []=>exact .inl fun k=>rfl
   | 1,_::_::_=>exact .inl fun k=>rfl
   | _+2,_=>exact .inl fun k=>rfl
  | _=>exact .inl fun k=>rfl
 | wV i sz j o =>
  simp only
  cases hi:h.at i with
  | row T l =>
   by_cases tT:sz=T.sz
   ·by_cases hle:o+vs.length≤(T.cells (l.getD j T.bU)).length
    ·cases hz:T.dec (D9 (T.cells (l.getD j T.bU)) o vs)with
     | none=>exact .inl fun k=>by simp only[tT,hle,if_true,hz]
     | some z =>
      by_cases hj:j<l.length
      ·exact .inr ⟨i, .row T (l.set j z),by simp[V.ids],fun h2 id2 k e=>by simp only[e,hi,tT,hle,if_true,hz,cu,hj,decide_true,cond_true]⟩
      ·exact .inl fun k=>by simp only[tT,hle,if_true,hz,cu,hj,decide_false,cond_false]
    ·exact .inl fun k=>by simp only[tT,hle,if_true,if_false]
   ·exact .inl fun k=>by simp only[tT,if_false]
  | _=>exact .inl fun k=>rfl
 | _=>exact .inl fun k=>rfl
theorem store_nat {t:Nat} {a y:Operand} {ρ:Operand→V} {id:Nat} {k0:V→aO→Option R} {r:R} (hk:SX tt (.store t a y) ρ h id k0=some r) :
  ∃i ob,i∈(ρ a).ids∧k0 .undef (h.set i ob)=some r∧∀(h2:aO) (id2:Nat) (k:V→aO→Option R),h2.at i=h.at i→SX tt (.store t a y) ρ h2 id2 k=k .undef (h2.set i ob):=by
 rcases Rz (tt:=tt) (R:=R) t a y ρ h id with h1|⟨i,ob,h1,h2⟩
 ·rw[h1]at hk; cases hk
 ·rw[h2 h id k0 rfl]at hk
  exact ⟨i,ob,h1,hk,h2⟩
theorem QF {E:Env R} (hE:EOk P E) {S:Option (Bool × List Nat)} {base:Nat} {all:List Oper} {y:Oper} {id:Nat} {st:St} {k k':St→Option R} (hb:cw tt y=true→base≤id)
  (h:∀v hp',Kept S tt E all base y st.hp hp'→k ⟨ow st.fr y.dst v,hp'⟩=k' ⟨ow st.fr y.dst v,hp'⟩):one tt E S base all y id st k=one tt E S base all y id st k':=by
 have h0:∀v,k ⟨ow st.fr y.dst v,st.hp⟩=k' ⟨ow st.fr y.dst v,st.hp⟩:=fun v=>h v _ (.inl fun _ _=>rfl)
 obtain ⟨fr,hpp⟩:=st
 unfold one
 refine T2 (fun _ _=>rfl) ?_ (h0 _)
 cases hS:NX tt E base S all y (ev fr) hpp with
 | false=>rfl
 | true =>
 simp only[cond_true]
 unfold DC
 simp only at h h0 ⊢
 split
 ·simp only[h0]
 ·simp only[h0]
 ·rename_i FR
  congr 1
  funext ob mk
  refine h _ _ (.inl fun i hi => ?_)
  have:=hb (by simp[cw,FR])
  rw[dt _ (by omega)]
 ·rename_i FR
  have hbi:=hb (by simp[cw,FR])
  cases XL:((drS tt S base y).isSome && !zG y.op (ev fr) id)with
  | true=>rfl
  | false =>
   simp only[cond_false]
   by_cases ha:sK y.op=true
   ·by_cases Vs:S.map (·.1)=some true
    ·congr 1
     funext v h'
     refine h v h' (.inr ⟨.inr ⟨Vs,ha⟩,fun hF => ?_,fun hv => ?_⟩)
     ·rw[uT (by rw[FR]; simp),FR]at hF; cases hF
     ·obtain ⟨t,a,z,ey,_⟩:=FA (.inl hv)
      rw[ey]at ha; cases ha
    have hlow':zG y.op (ev fr) id=true:=by rw[ZD Vs]at XL; simpa using XL
    exact ZC ha hlow' fun v h' hrd=>h v h' (.inl fun i hi=>hrd i (by omega))
   ·have htu:turns tt E y.op := .inl ⟨by rw[uT (by rw[FR]; simp),FR],by simpa using ha⟩
    have hnF:fc tt E y.op ≠ .F:=fun hF=>by rw[uT (by rw[FR]; simp),FR]at hF; cases hF
    by_cases hv:mh all y=true
    ·obtain ⟨t,a,z,ey,_,_⟩:=FA (.inl hv)
     rw[ey]
     rcases Rz (tt:=tt) (R:=R) t a z (ev fr) hpp id with h1|⟨i,ob,h1,h2⟩
     ·rw[h1,h1]
     ·rw[h2 hpp id _ rfl,h2 hpp id _ rfl]
      refine h _ _ (.inr ⟨.inl htu,fun hF=>(hnF hF).elim,fun _ A hA j hj => ?_⟩)
      subst hA
      simp only[NX,FR,hv,Bool.not_true,Bool.false_or,List.all_eq_true]at hS
      have h3:=hS i (by rw[ey]; exact h1)
      rw[dt _ (by rintro rfl; exact hj (by simpa using h3))]
    ·congr 1
     funext v h'
     exact h v h' (.inr ⟨.inl htu,fun hF=>(hnF hF).elim,fun hv2=>(hv hv2).elim⟩)
 ·rename_i FR
  rw[XP (by rw[FR]; simp)]
  split
  ·rename_i cl KY
   cases hpl:qE E y.op with
   | true =>
    have hfull:(Option.isNone (some base) || !true)=false:=rfl
    rw[hfull]
    unfold Cm
    split
    ·split
     ·split
      ·simp only
       split
       ·congr 1
        funext v h'
        cases h' with
        | nil=>exact h0 v
        | cons _ _=>rfl
       ·rfl
      ·rfl
      ·rfl
     ·rfl
    ·rfl
   | false =>
    have hF:fc tt E y.op = .F:=by unfold fc; rw[FR]; simp[hpl]
    cases hs:ox E y.op with
    | true=>exact callK_soft hE (by rw[←KY]; exact hs) fun v=>h0 v
    | false =>
     have htu:turns tt E y.op := .inr ⟨hF,hs⟩
     refine callK_back (by rw[KY]at hpl; exact hpl) (by rw[KY]at hs; exact hs) (fun v h' hh=>h v h' (.inr ⟨.inl htu,fun _ A hA => ?_,fun hv => ?_⟩)) fun v=>h0 v
     rotate_left
     ·obtain ⟨t,a,z,ey,_⟩:=FA (.inl hv)
      rw[ey]at KY; cases KY
     subst hA
     have hif:isF tt E y.op=true:=by unfold isF; rw[hF]
     simp only[NX,FR,hif,hs,Bool.not_true,Bool.false_or,List.all_eq_true,Bool.and_eq_true]at hS
     intro i hi
     have h1:=hS.2 i hi
     rw[KY]at h1
     rw[hh i (by simpa using h1.1) (by simpa using h1.2)]
  ·rfl
 ·rfl
 ·rfl
end
section
variable {P:Program} {tt:eF} {w w':World} {h h':aO} {c c':lj} {R:Type}
theorem wp_const {o:Oper} {a:Act} {G:Prop} (h:o.wp P a w (fun _ _=>G) (fun _ _ _=>G)):G:=by
 unfold Oper.wp at h
 generalize (execOp a.eval o).run P w=r at h
 cases r with
 | ok n w' =>
  cases n <;> simp only[Oper.upon]at h <;> try (first|exact h|exact h.elim)
  ·obtain ⟨e,w',fr,hR,_⟩:=h []
   cases e with
   | returned v=>exact hR
   | panicked c=>exact hR
   | outgrown=>obtain ⟨_,_,g⟩:=hR; exact g
  ·obtain ⟨v,w',g,_⟩:=h (Frame.enter P 0 #[] .normal) []
   exact g
 | halt x w'=>cases x <;> simp only[Oper.upon]at h <;> first|exact h|exact h.elim
theorem one_reach (T:A6 P tt) {E:Env R} (hE:EOk P E) {S:Option (Bool × List Nat)} {base:Nat} {ops:Array Oper} {y:Oper} {id:Nat} {st:St} {a:Act} {k:St→Option R} {r:R} (hk:one tt E S base ops.toList y id st k=some r) (jz:N6 w c st a)
  (hid:cw tt y=true→base≤id∧id<st.hp.length∧st.hp.at id = .free) :
  ∃w1 c1 QE a1 v,N6 w1 c1 QE a1∧k QE=some r∧QE.fr=ow st.fr y.dst v∧Kept S tt E ops.toList base y st.hp QE.hp∧xB (cw tt y) id st.hp QE.hp:=by
 classical
 obtain ⟨k',uQ,hof⟩:∃k':St→Option R,one tt E S base ops.toList y id st k'=some r∧∀QE,k' QE=some r→k QE=some r∧Kept S tt E ops.toList base y st.hp QE.hp:=by
  refine ⟨fun QE=>if Kept S tt E ops.toList base y st.hp QE.hp then k QE else none,?_,fun QE e => ?_⟩
  ·rw[←hk]
   refine QF hE (fun ha=>(hid ha).1) fun v hp' ht => ?_
   rw[if_pos ht]
  ·simp only at e
   split at e
   ·exact ⟨e, ‹_›⟩
   ·cases e
 rcases II jz uQ with ⟨_,hk⟩|⟨_,hk⟩
 ·have hk:DC tt E (drS tt S base y) id y st k'=some r:=by
   cases hS:NX tt E base S ops.toList y (ev st.fr) st.hp with
   | true=>rw[hS]at hk; exact hk
   | false=>rw[hS]at hk; cases hk
  refine wp_const (P:=P) (o:=y) (a:=a) (w:=w) (Lb T hE hk jz (fun ha=>(hid ha).2) fun d w' wW c' v sim' x kp hf _ _ uQ => ?_)
  exact ⟨w',c',wW,_,v,sim',(hof _ uQ).1,hf,(hof _ uQ).2,kp⟩
 ·exact ⟨w,c,⟨ow st.fr y.dst (.tuple []),st.hp⟩,a.put y.dst undef, .tuple [],⟨jz.wf,E0 jz.fr _ QD⟩,(hof _ hk).1,rfl, .inl fun _ _=>rfl, .refl _ _ _⟩
structure Good (tt:eF) (base n:Nat) (rem:List AD) (h:aO):Prop where
 top:∀z∈rem,cw tt z.2.1=true→z.2.2<base+n
 slot:∀z∈rem,cw tt z.2.1=true→base≤z.2.2∧z.2.2<h.length∧h.at z.2.2 = .free
 apart:rem.Pairwise fun z z'=>cw tt z.2.1=true→cw tt z'.2.1=true→z.2.2<z'.2.2
theorem Good.sub {base n:Nat} {rem rem':List AD} (g:Good tt base n rem h) (hs:List.Sublist rem' rem):Good tt base n rem' h :=
 ⟨fun z hz=>g.top z (hs.subset hz),fun z hz=>g.slot z (hs.subset hz),g.apart.sublist hs⟩
theorem Good.step {base n:Nat} {x:AD} {pre post:List AD} (g:Good tt base n (pre++x::post) h) (kp:xB (cw tt x.2.1) x.2.2 h h'):Good tt base n (pre++post) h':=by
 have hs:List.Sublist (pre++post) (pre++x::post):=List.Sublist.append (List.Sublist.refl _) (List.sublist_cons_self _ _)
 refine ⟨fun z hz=>g.top z (hs.subset hz),fun z hz ha => ?_,g.apart.sublist hs⟩
 obtain ⟨h1,h2,h3⟩:=g.slot z (hs.subset hz) ha
 refine ⟨h1,Nat.lt_of_lt_of_le h2 kp.1,kp.2 _ (fun hx => ?_) h2 h3⟩
 have hp:=g.apart
 rw[List.pairwise_append,List.pairwise_cons]at hp
 rcases List.mem_append.1 hz with hz|hz
 ·have:=hp.2.2 z hz x (by simp) ha hx; omega
 ·have:=hp.2.1.1 z hz hx ha; omega
theorem T6 {all:List Oper} {x y:Oper} (h2:Cr all x y=true):Cr all y x=true:=by
 obtain ⟨a1,a2,a3⟩:=apart_spec h2
 simp only[Cr,Bool.and_eq_true]
 constructor
 ·cases hd:y.dst with
  | none=>rfl
  | some d =>
   have h3:=a3 d hd
   have h4:x.dst≠some d:=fun e=>a2 d e hd
   simp[h3,h4]
 ·cases hd:x.dst with
  | none=>rfl
  | some d=>simp[a1 d hd]
theorem T7 {a b:Cls} (h:Nc a b=true):Nc b a=true:=by revert h; cases a <;> cases b <;> simp[Nc]
theorem FB {E:Env R} {all:List Oper} {x y:Oper} (h:Qp tt E all x y=true):Cr all x y=true ∧
  (Nc (fc tt E x.op) (fc tt E y.op)=true∨(sK x.op=true∧(fc tt E y.op = .A∨fc tt E y.op = .R))∨(fc tt E x.op = .R∧sK y.op=true)∨(ox E x.op=true∧fc tt E y.op = .R)∨(fc tt E x.op = .R∧ox E y.op=true)):=by
 simp only[Qp,Bool.and_eq_true,Bool.or_eq_true,tokPair]at h
 obtain ⟨h1,h2⟩:=h
 refine ⟨h2,?_⟩
 rcases h1 with h1|(⟨h1,h3⟩|⟨h1,h3⟩)|(⟨h1,h3⟩|⟨h1,h3⟩)
 ·exact .inl h1
 ·refine .inr (.inl ⟨h1,?_⟩)
  revert h3; cases fc tt E y.op <;> simp
 ·refine .inr (.inr (.inl ⟨?_,h3⟩))
  revert h1; cases fc tt E x.op <;> simp
 ·refine .inr (.inr (.inr (.inl ⟨h1,?_⟩)))
  revert h3; cases fc tt E y.op <;> simp
 ·refine .inr (.inr (.inr (.inr ⟨?_,h3⟩)))
  revert h1; cases fc tt E x.op <;> simp
theorem ZH {E:Env R} {o:Op} (h:isF tt E o=true):fc tt E o = .F:=by revert h; unfold isF; cases fc tt E o <;> simp
theorem far_spec {E:Env R} {all:List Oper} {x:Oper} (h:farR tt E all x=true):fc tt E x.op = .R:=by
 simp only[farR,Bool.and_eq_true]at h
 revert h
 cases fc tt E x.op <;> simp
theorem far2_spec {E:Env R} {all:List Oper} {x:Oper} (h:Wf tt E all x=true):fc tt E x.op = .R:=by
 simp only[Wf,Bool.and_eq_true]at h
 revert h
 cases fc tt E x.op <;> simp
theorem ub {E:Env R} {far:Option Bool} {all:List Oper} {x y:Oper} (h:JT tt E far all x y=true):Cr all x y=true∧((Qp tt E all x y=true∧(far=some true→YW tt E x y=true))∨(far=some true ∧
  ((farR tt E all x=true∧fc tt E x.op = .R∧fc tt E y.op = .F)∨(fc tt E x.op = .F∧ox E x.op=false∧gv tt y.op = .A)∨farW all x y=true))∨(far=some false∧Wf tt E all x=true∧fc tt E x.op = .R∧mh all y=true)):=by
 unfold JT at h
 simp only[Bool.or_eq_true,Bool.and_eq_true]at h
 rcases h with ⟨h,hn⟩|h
 ·exact ⟨(FB h).1, .inl ⟨h,fun e=>by subst e; exact hn⟩⟩
 ·split at h
  ·cases h
  ·simp only[Bool.or_eq_true,Bool.and_eq_true]at h
   rcases h with ⟨(⟨h2,h3⟩|⟨h2,h3,h5⟩)|h2,h4⟩
   ·exact ⟨h4, .inr (.inl ⟨rfl, .inl ⟨h2,far_spec h2,ZH h3⟩⟩)⟩
   ·refine ⟨h4, .inr (.inl ⟨rfl, .inr (.inl ⟨ZH h2,by simpa using h3,?_⟩)⟩)⟩
    revert h5
    cases gv tt y.op <;> simp
   ·exact ⟨h4, .inr (.inl ⟨rfl, .inr (.inr h2)⟩)⟩
  ·simp only[Bool.and_eq_true]at h
   exact ⟨h.2, .inr (.inr ⟨rfl,h.1.1,far2_spec h.1.1,h.1.2⟩)⟩
theorem XR {all:List Oper} {x:Oper} (h:mh all x=true∨uP all x=true):gv tt x.op = .W:=by
 obtain ⟨t,a,y,e,_⟩:=FA h
 rw[e]; rfl
theorem WD {E:Env R} {S:Option (Bool × List Nat)} {base:Nat} {all:List Oper} {x:Oper} {id:Nat} {fr:List V} {k0:St→Option R} {r:R} (hx:mh all x=true∨uP all x=true) (hk:one tt E S base all x id ⟨fr,h⟩ k0=some r) :
  NX tt E base S all x (ev fr) h=true∧∃i ob,i∈FH x.op (ev fr)∧k0 ⟨fr,h.set i ob⟩=some r∧∀(h2:aO) (id2:Nat) (k:St→Option R),h2.at i=h.at i→one tt E S base all x id2 ⟨fr,h2⟩ k=k ⟨fr,h2.set i ob⟩:=by
 obtain ⟨t,a,y,e,hd,hg⟩:=FA hx
 obtain ⟨dst,op,ty,pos,after,guard⟩:=x
 simp only at e hd hg
 subst e hd hg
 unfold one at hk ⊢
 rw[Fz]at hk
 simp only at hk
 have hS:NX tt E base S all ⟨none, .store t a y,ty,pos,after,none⟩ (ev fr) h=true:=by
  cases hS:NX tt E base S all ⟨none, .store t a y,ty,pos,after,none⟩ (ev fr) h with
  | true=>rfl
  | false=>rw[hS]at hk; cases hk
 refine ⟨hS,?_⟩
 have Vs:∀(dr:Option Nat) (id:Nat) (h:aO) (k:St→Option R),DC tt E dr id ⟨none, .store t a y,ty,pos,after,none⟩ ⟨fr,h⟩ k=SX tt (.store t a y) (ev fr) h id fun v h=>k ⟨ow fr none v,h⟩:=fun dr id h k=>by cases dr <;> rfl
 rw[hS,cond_true,Vs]at hk
 obtain ⟨i,ob,h1,h2,h3⟩:=store_nat (tt:=tt) (t:=t) (a:=a) (y:=y) (ρ:=ev fr) (id:=id) (k0:=fun v h=>k0 ⟨ow fr none v,h⟩) hk
 refine ⟨i,ob,h1,h2,fun hh id2 k e => ?_⟩
 rw[Fz]
 simp only
 have hS2:NX tt E base S all ⟨none, .store t a y,ty,pos,after,none⟩ (ev fr) hh=true:=by
  rw[←hS]
  match S with
  | none=>rfl
  | some (true,A)=>rfl
  | some (false,A)=>rfl
 rw[hS2,cond_true,Vs]
 exact h3 hh id2 (fun v h=>k ⟨ow fr none v,h⟩) e
theorem T8 {E:Env R} {o:Op} (hs:ox E o=true):gv tt o = .C:=by
 unfold ox at hs
 split at hs
 ·split at hs
  ·rename_i cl _ g hg
   simp only[gv,hg]
  ·cases hs
 ·cases hs
theorem XS {E:Env R} {o:Op} (hs:ox E o=true):fc tt E o = .F:=by
 have hc:=T8 (tt:=tt) hs
 have hp:qE E o=false:=by
  unfold ox at hs
  unfold qE
  split at hs
  ·split at hs
   ·rename_i cl _ g hg
    simp only[Bool.and_eq_true]at hs
    obtain ⟨_,h2⟩:=hs
    split at h2
    ·rename_i sp O7
     simp only[hg,O7]
    ·cases h2
   ·cases hs
  ·cases hs
 unfold fc
 rw[hc,hp]
 rfl
theorem app_in {E:Env R} {o:Op} (ha:sK o=true):fc tt E o = .W:=by rw[uT (by rw[GJ ha]; simp),GJ ha]
theorem T9 {E:Env R} {o:Op} {a:Cls} (h:fc tt E o=a) (h1:a ≠ .C) (h2:a ≠ .F):gv tt o=a:=by
 unfold fc at h
 split at h
 ·revert h; cases qE E o <;> intro h <;> subst h <;> simp at h1 h2
 ·exact h
theorem WE {E:Env R} {all:List Oper} {x y:Oper} (h:Qp tt E all x y=true∨Qp tt E all y x=true) (hR:gv tt x.op = .R):¬turns tt E y.op:=by
 have hx:fc tt E x.op = .R:=by rw[uT (by rw[hR]; simp),hR]
 intro ht
 have hna:sK y.op=true→False:=fun ha=>by
  rcases ht with ⟨_,h⟩|⟨h,_⟩
  ·rw[ha]at h; cases h
  ·rw[app_in ha]at h; cases h
 have WG:ox E y.op=true→False:=fun hs=>by
  rcases ht with ⟨h,_⟩|⟨_,h⟩
  ·rw[XS hs]at h; cases h
  ·rw[hs]at h; cases h
 have hc:Nc .R (fc tt E y.op)=false:=by rcases ht with ⟨h,_⟩|⟨h,_⟩ <;> rw[h] <;> rfl
 rcases h with h|h
 ·rcases (FB h).2 with h|⟨h,_⟩|⟨_,h⟩|⟨h,_⟩|⟨_,h⟩
  ·rw[hx,hc]at h; cases h
  ·rw[app_in h]at hx; cases hx
  ·exact hna h
  ·rw[XS h]at hx; cases hx
  ·exact WG h
 ·rcases (FB h).2 with h|⟨h,_⟩|⟨h,h'⟩|⟨h,_⟩|⟨_,h⟩
  ·have:=T7 h; rw[hx,hc]at this; cases this
  ·exact hna h
  ·rw[app_in h']at hx; cases hx
  ·exact WG h
  ·rw[XS h]at hx; cases hx
theorem GK.symm {S:Option (Bool × List Nat)} {E:Env R} {all:List Oper} {base:Nat} {x:Oper} {s t:St} (h:GK S E all tt base x s t):GK S E all tt base x t s:=⟨fun u hu=>(h.1 u hu).symm,fun hR i hi hA hB=>(h.2 hR i hi hA hB).symm⟩
theorem GK.trans {S:Option (Bool × List Nat)} {E:Env R} {all:List Oper} {base:Nat} {x:Oper} {s t u:St} (h:GK S E all tt base x s t) (h':GK S E all tt base x t u):GK S E all tt base x s u :=
 ⟨fun v hv=>(h'.1 v hv).trans (h.1 v hv),fun hR i hi hA hB=>(h'.2 hR i hi hA hB).trans (h.2 hR i hi hA hB)⟩
theorem IK {E:Env R} {S:Option (Bool × List Nat)} {all:List Oper} {base:Nat} {x y:Oper} (hp:JT tt E (S.map (·.1)) all x y=true∨JT tt E (S.map (·.1)) all y x=true) {st QE:St} {v:V} (hf:QE.fr=ow st.fr y.dst v) (hh:Kept S tt E all base y st.hp QE.hp) :
  GK S E all tt base x st QE:=by
 have h2:Cr all y x=true:=by
  rcases hp with h|h
  ·exact T6 (ub h).1
  ·exact (ub h).1
 refine ⟨fun t ht => ?_,fun hR i hi hA hB => ?_⟩
 ·rw[hf]
  exact WA fun e=>(apart_spec h2).1 t e ht
 ·rcases hh with hh|⟨hW,hh,hh2⟩
  ·exact hh i hi
  ·have hx:fc tt E x.op = .R:=by rw[uT (by rw[hR]; simp),hR]
   rcases hp with h|h
   ·rcases (ub h).2 with ⟨h,hn⟩|⟨h1,⟨h3,_,h4⟩|⟨h4,_⟩|h4⟩|⟨h1,h3,_,h4⟩
    ·rcases hW with hW|⟨Vs,ha⟩
     ·exact (WE (.inl h) hR hW).elim
     ·have:=hn Vs
      simp[YW,rdA,hx,ha]at this
    ·match S,h1 with
     | some (true,A),_=>exact hh h4 A rfl i (hA A rfl h3)
    ·rw[hx]at h4; cases h4
    ·rw[(HV (tt:=tt) h4).1]at hR; cases hR
    ·match S,h1 with
     | some (false,A),_=>exact hh2 h4 A rfl i (hB A rfl h3)
   ·rcases (ub h).2 with ⟨h,hn⟩|⟨_,⟨_,_,h4⟩|⟨_,_,h4⟩|h4⟩|⟨_,_,_,h4⟩
    ·rcases hW with hW|⟨Vs,ha⟩
     ·exact (WE (.inr h) hR hW).elim
     ·have:=hn Vs
      simp[YW,rdA,hx,ha]at this
    ·rw[hx]at h4; cases h4
    ·rw[hR]at h4; cases h4
    ·rw[(HV (tt:=tt) h4).2]at hR; cases hR
    ·rw[XR (tt:=tt) (.inl h4)]at hR; cases hR
section
variable {E:Env R} {S:Option (Bool × List Nat)} {base:Nat} {ops:Array Oper} {k:St→Option R} {r:R}
theorem pull (hE:EOk P E) {x:AD} {e:Eff} {st0:St} (hc:calm (gv tt x.2.1.op)=true) (he:e.dst=x.2.1.dst) (ZG:∀i ob,e.put=some (i,ob)→i=x.2.2∧gv tt x.2.1.op = .A)
  (hnat:∀Gj,GK S E ops.toList tt base x.2.1 st0 Gj→∀k,one tt E S base ops.toList x.2.1 x.2.2 Gj k=k (eff Gj e)) (post:List AD) :
  ∀(pre:List AD) (st:St) (h:aO),Good tt base (ops.toList.filter (cw tt)).length (pre++x::post) h→(∀y∈pre,JT tt E (S.map (·.1)) ops.toList y.2.1 x.2.1=true)→GK S E ops.toList tt base x.2.1 st0 st →
   Ka tt E S base ops.toList (pre++x::post) st k=Ka tt E S base ops.toList (pre++post) (eff st e) k
 | [],st,_,_,_,ha=>hnat st ha _
 | y::pre,st,h,g,hp,ha=>by
  have hpy:=hp y (by simp)
  have gx:cw tt x.2.1=true→base≤x.2.2:=fun hx=>(g.slot x (by simp) hx).1
  have gy:cw tt y.2.1=true→base≤y.2.2:=fun hx=>(g.slot y (by simp) hx).1
  have glt:cw tt x.2.1=true→cw tt y.2.1=true→y.2.2<x.2.2:=fun hx hy=>by
   have:=g.apart
   rw[List.cons_append,List.pairwise_cons]at this
   exact this.1 x (by simp) hy hx
  have gne:cw tt x.2.1=true→cw tt y.2.1=true→x.2.2≠y.2.2:=fun hx hy=>by have:=glt hx hy; omega
  have KY:Nc (fc tt E x.2.1.op) (fc tt E y.2.1.op)=true∨(sK y.2.1.op=true∧S.map (·.1)≠some true∧(cw tt x.2.1=true→y.2.2<x.2.2))∨(gv tt x.2.1.op = .R∧sK y.2.1.op=true)∨(gv tt x.2.1.op = .R∧ox E y.2.1.op=true)∨(gv tt x.2.1.op = .R∧fc tt E y.2.1.op = .F)∨(gv tt x.2.1.op = .A∧S.map (·.1)=some true∧fc tt E y.2.1.op = .F∧ox E y.2.1.op=false)∨(gv tt x.2.1.op = .R∧gv tt y.2.1.op = .W):=by
   rcases (ub hpy).2 with ⟨hpo,hna⟩|⟨hSo,⟨_,_,hF⟩|⟨hF,hsf,hA⟩|hW⟩|⟨_,_,_,hW⟩
   rotate_left
   rotate_left
   ·exact .inr (.inr (.inr (.inr (.inr (.inl ⟨hA,hSo,hF,hsf⟩)))))
   ·rw[(HV (tt:=tt) hW).2]at hc; cases hc
   ·rw[XR (tt:=tt) (.inl hW)]at hc; cases hc
   rotate_left
   ·have hC:gv tt x.2.1.op = .C:=by
     unfold fc at hF
     split at hF
     ·assumption
     ·rw[hF]at hc; cases hc
    rw[hC]at hc; cases hc
   rcases (FB hpo).2 with h|⟨h,h'⟩|⟨_,h⟩|⟨h,h'⟩|⟨_,h⟩
   ·exact .inl (T7 h)
   ·refine .inr (.inl ⟨h,fun Vs => ?_,fun hx=>glt hx (by simp[cw,GJ h])⟩)
    have:=hna Vs
    rcases h' with h'|h' <;> simp[YW,rdA,h,h']at this
   ·rw[GJ h]at hc; cases hc
   ·exact .inr (.inr (.inr (.inl ⟨T9 h' (by simp) (by simp),h⟩)))
   ·rw[T8 h]at hc; cases hc
  simp only[List.cons_append,Ka]
  rw[one_eff KY (T6 (ub hpy).1) hc he ZG gne gx fun hx=>g.top x (by simp) hx]
  refine QF hE gy fun v hp' hh => ?_
  exact pull hE hc he ZG hnat post pre _ h (g.sub (List.sublist_cons_self _ _)) (fun z hz=>hp z (by simp[hz])) (ha.trans (IK (.inr hpy) rfl hh))
theorem find (T:A6 P tt) (hE:EOk P E) {x:AD} (post:List AD):∀(pre:List AD) (w:World) (c:lj) (st:St) (a:Act),N6 w c st a→Good tt base (ops.toList.filter (cw tt)).length (pre++x::post) st.hp→(∀y∈pre,JT tt E (S.map (·.1)) ops.toList y.2.1 x.2.1=true) →
  Ka tt E S base ops.toList (pre++x::post) st k=some r→∃wW k',GK S E ops.toList tt base x.2.1 st wW∧one tt E S base ops.toList x.2.1 x.2.2 wW k'=some r
 | [],_,_,st,_,_,_,_,hk=>⟨st,_,⟨fun _ _=>rfl,fun _ _ _ _ _=>rfl⟩,hk⟩
 | y::pre,w,c,st,a,jz,g,hp,hk=>by
  simp only[List.cons_append,Ka]at hk
  obtain ⟨w1,c1,QE,a1,v,s1,hk1,hf,hh,kp⟩:=one_reach T hE hk jz (fun ha=>g.slot y (by simp) ha)
  obtain ⟨wW,k',h1,h2⟩:=find T hE post pre w1 c1 QE a1 s1 (Good.step (pre := []) g kp) (fun z hz=>hp z (by simp[hz])) hk1
  exact ⟨wW,k',(IK (.inr (hp y (by simp))) hf hh).trans h1,h2⟩
theorem pullW (hE:EOk P E) {x:AD} (post:List AD):∀(pre:List AD) (st:St) (h:aO),Good tt base (ops.toList.filter (cw tt)).length (pre++x::post) h→(∀y∈pre,JT tt E (S.map (·.1)) ops.toList y.2.1 x.2.1=true∧(calm (gv tt y.2.1.op)=true∨(S.map (·.1)=some true∧farW ops.toList y.2.1 x.2.1=true))) →
  Ka tt E S base ops.toList (pre++x::post) st k=some r→one tt E S base ops.toList x.2.1 x.2.2 st (fun QE=>Ka tt E S base ops.toList (pre++post) QE k)=some r
 | [],_,_,_,_,hk=>hk
 | y::pre,st,h,g,hp,hk=>by
  obtain ⟨hpy,FR⟩:=hp y (by simp)
  simp only[List.cons_append,Ka]at hk ⊢
  rcases FR with FR|⟨hSo,hW⟩
  rotate_left
  ·have hvy:mh ops.toList y.2.1=true∨uP ops.toList y.2.1=true:=(Mh hW).imp (·.1) (·.1)
   have hvx:mh ops.toList x.2.1=true∨uP ops.toList x.2.1=true:=((Mh hW).imp (·.2) (·.2)).symm
   obtain ⟨fr,hp0⟩:=st
   obtain ⟨sy,i,ob,iy,hk1,ny⟩:=WD hvy hk
   have ih:=pullW hE post pre _ h (g.sub (List.sublist_cons_self _ _)) (fun z hz=>hp z (by simp[hz])) hk1
   obtain ⟨sx,j,ob',ix,KX,nx⟩:=WD hvx ih
   have ju:i≠j:=by
    match S,hSo,sy,sx with
    | some (true,A),_,sy,sx =>
     simp only[NX,(HV (tt:=tt) hW).1,Bool.and_eq_true,Bool.or_eq_true,Bool.not_eq_true',List.all_eq_true]at sy
     simp only[NX,(HV (tt:=tt) hW).2,Bool.and_eq_true,Bool.or_eq_true,Bool.not_eq_true',List.all_eq_true]at sx
     rintro rfl
     rcases Mh hW with ⟨g1,g2⟩|⟨g1,g2⟩
     ·have a1:=sy.1.resolve_left (by simp[g1]) i iy
      have a2:=sx.2.resolve_left (by simp[g2]) i ix
      rw[a1]at a2; cases a2
     ·have a1:=sy.2.resolve_left (by simp[g1]) i iy
      have a2:=sx.1.resolve_left (by simp[g2]) i ix
      rw[a2]at a1; cases a1
   rw[nx hp0 _ _ (dt _ ju).symm,ny (hp0.set j ob') _ _ (dt _ (Ne.symm ju)),←List.set_comm _ _ ju]
   exact KX
  obtain ⟨e,h1,h2,h3,h4⟩:=one_nat FR hk
  have gx:cw tt x.2.1=true→base≤x.2.2:=fun hx=>(g.slot x (by simp) hx).1
  have gy:cw tt y.2.1=true→base≤y.2.2:=fun hx=>(g.slot y (by simp) hx).1
  have gne:cw tt y.2.1=true→cw tt x.2.1=true→y.2.2≠x.2.2:=fun hy hx=>by
   have:=g.apart
   rw[List.cons_append,List.pairwise_cons]at this
   exact Nat.ne_of_lt (this.1 x (by simp) hy hx)
  have KY:Nc (fc tt E y.2.1.op) (fc tt E x.2.1.op)=true∨(sK x.2.1.op=true∧S.map (·.1)≠some true∧(cw tt y.2.1=true→x.2.2<y.2.2))∨(gv tt y.2.1.op = .R∧sK x.2.1.op=true)∨(gv tt y.2.1.op = .R∧ox E x.2.1.op=true)∨(gv tt y.2.1.op = .R∧fc tt E x.2.1.op = .F)∨(gv tt y.2.1.op = .A∧S.map (·.1)=some true∧fc tt E x.2.1.op = .F∧ox E x.2.1.op=false)∨(gv tt y.2.1.op = .R∧gv tt x.2.1.op = .W):=by
   rcases (ub hpy).2 with ⟨hpo,_⟩|⟨_,⟨_,hR,hF⟩|⟨hF,_⟩|hW⟩|⟨_,_,hR,hW⟩
   rotate_left
   ·exact .inr (.inr (.inr (.inr (.inl ⟨T9 hR (by simp) (by simp),hF⟩))))
   ·have hC:gv tt y.2.1.op = .C:=by
     unfold fc at hF
     split at hF
     ·assumption
     ·rw[hF]at FR; cases FR
    rw[hC]at FR; cases FR
   ·rw[(HV (tt:=tt) hW).1]at FR; cases FR
   ·exact .inr (.inr (.inr (.inr (.inr (.inr ⟨T9 hR (by simp) (by simp),XR (.inl hW)⟩)))))
   rcases (FB hpo).2 with h|⟨h,_⟩|⟨h,h'⟩|⟨h,_⟩|⟨h,h'⟩
   ·exact .inl h
   ·rw[GJ h]at FR; cases FR
   ·exact .inr (.inr (.inl ⟨T9 h (by simp) (by simp),h'⟩))
   ·rw[T8 h]at FR; cases FR
   ·exact .inr (.inr (.inr (.inl ⟨T9 h (by simp) (by simp),h'⟩)))
  have ih:=pullW hE post pre (eff st e) h (g.sub (List.sublist_cons_self _ _)) (fun z hz=>hp z (by simp[hz])) h3
  rw[one_eff KY (ub hpy).1 FR h1 h2 gne gy fun hy=>g.top y (by simp) hy]at ih
  rw[←ih]
  refine QF hE gx fun v hp' hh => ?_
  exact h4 _ (IK (.inl hpy) rfl hh) _
theorem bubble (T:A6 P tt) (hE:EOk P E) {x:AD} {pre post:List AD} {st:St} {a:Act} (jz:N6 w c st a) (g:Good tt base (ops.toList.filter (cw tt)).length (pre++x::post) st.hp) (hp:∀y∈pre,JT tt E (S.map (·.1)) ops.toList y.2.1 x.2.1=true)
  (hk:Ka tt E S base ops.toList (pre++x::post) st k=some r):one tt E S base ops.toList x.2.1 x.2.2 st (fun QE=>Ka tt E S base ops.toList (pre++post) QE k)=some r:=by
 by_cases hc:calm (gv tt x.2.1.op)=true
 ·obtain ⟨wW,k',h1,h2⟩:=find T hE post pre w c st a jz g hp hk
  obtain ⟨e,e1,e2,_,e4⟩:=one_nat hc h2
  rw[e4 st h1.symm,←pull hE hc e1 e2 e4 post pre st _ g hp h1.symm]
  exact hk
 ·refine pullW hE post pre st _ g (fun y hy=>⟨hp y hy,?_⟩) hk
  have h0:=(ub (hp y hy)).2
  by_cases hfw:S.map (·.1)=some true∧farW ops.toList y.2.1 x.2.1=true
  ·exact .inr hfw
  refine .inl ?_
  have hy:fc tt E y.2.1.op = .P∨fc tt E y.2.1.op = .R∨fc tt E y.2.1.op = .A:=by
   have hx:¬calm (fc tt E x.2.1.op)=true:=by
    unfold fc
    split
    ·cases qE E x.2.1.op <;> simp[calm]
    ·exact hc
   rcases h0 with ⟨h0,_⟩|⟨hSo,⟨_,h0,_⟩|⟨_,_,h0⟩|h0⟩|⟨_,_,h0,_⟩
   rotate_left
   ·exact .inr (.inl h0)
   ·exact (hc (by rw[h0]; rfl)).elim
   ·exact (hfw ⟨hSo,h0⟩).elim
   ·exact .inr (.inl h0)
   have h1:=(FB h0).2
   rcases h1 with h1|⟨_,h1⟩|⟨h1,_⟩|⟨_,h1⟩|⟨h1,_⟩
   ·revert h1 hx
    cases fc tt E x.2.1.op <;> cases fc tt E y.2.1.op <;> simp[Nc,calm]
   ·exact (hx (by rcases h1 with h|h <;> rw[h] <;> rfl)).elim
   ·exact .inr (.inl h1)
   ·exact (hx (by rw[h1]; rfl)).elim
   ·exact .inr (.inl h1)
  have ju:gv tt y.2.1.op ≠ .C:=fun e=>by
   unfold fc at hy
   rw[e]at hy
   cases hp2:qE E y.2.1.op <;> simp[hp2]at hy
  rw[uT ju]at hy
  rcases hy with h|h|h <;> rw[h] <;> rfl
end
theorem Cx:∀(l:List Oper) (i id:Nat) (x:AD),x∈number tt l i id→i≤x.1∧x.1<i+l.length∧l[x.1 - i]? = some x.2.1∧id≤x.2.2∧(cw tt x.2.1=true→x.2.2<id+(l.filter (cw tt)).length)
 | [],_,_,_,h=>by simp[number]at h
 | o::l,i,id,x,h=>by
  simp only[number,List.mem_cons]at h
  rcases h with rfl|h
  ·refine ⟨Nat.le_refl _,by simp,by simp,Nat.le_refl _,fun ha => ?_⟩
   simp only at ha
   simp only[List.filter_cons_of_pos ha,List.length_cons]
   omega
  ·obtain ⟨h1,h2,h3,h4,h5⟩:=Cx l _ _ x h
   have e:x.1 - i=(x.1 - (i+1))+1:=by omega
   refine ⟨by omega,by simp; omega,by rw[e]; simpa using h3,?_,fun ha => ?_⟩
   ·split at h4 <;> omega
   ·have:=h5 ha
    by_cases ho:cw tt o=true
    ·rw[if_pos ho]at this
     rw[List.filter_cons_of_pos ho,List.length_cons]; omega
    ·rw[if_neg ho]at this
     rw[List.filter_cons_of_neg ho]; omega
theorem IL:∀(l:List Oper) (i id:Nat),(number tt l i id).Pairwise fun z z'=>z.1<z'.1∧(cw tt z.2.1=true→cw tt z'.2.1=true→z.2.2<z'.2.2)
 | [],_,_=>by simp[number]
 | o::l,i,id=>by
  simp only[number,List.pairwise_cons]
  refine ⟨fun z hz => ?_,IL l _ _⟩
  obtain ⟨h1,_,_,h4,_⟩:=Cx l _ _ z hz
  refine ⟨by omega,fun ha _ => ?_⟩
  rw[if_pos ha]at h4
  omega
theorem Ua:∀(l:List Oper) (i id j:Nat),i≤j→j<i+l.length→∃x∈number tt l i id,x.1=j
 | [],i,_,j,h1,h2=>by simp at h2; omega
 | o::l,i,id,j,h1,h2=>by
  by_cases e:i=j
  ·exact ⟨(i,o,id),by simp[number],e⟩
  ·obtain ⟨x,hx,ex⟩:=Ua l (i+1) (if cw tt o then id+1 else id) j (by omega) (by simp at h2; omega)
   exact ⟨x,by simp[number,hx],ex⟩
structure Left (ops:Array Oper) (b:List (List Nat)) (listed:Array Bool) (rem:List AD):Prop where
 size:listed.size=ops.size
 sorted:rem.Pairwise fun z z'=>z.1<z'.1
 op:∀x∈rem,ops[x.1]? = some x.2.1
 un:∀x∈rem,listed.getD x.1 true=false
 all:∀i,listed.getD i true=false→∃x∈rem,x.1=i
 closed:∀m,listed.getD m false=true→∀i∈b.getD m [],listed.getD i false=true
theorem Ub {listed:Array Bool} {i:Nat} (h:i<listed.size):listed.getD i false=true↔¬listed.getD i true=false:=by
 simp[h]
theorem any_sound (T:A6 P tt) {E:Env R} (hE:EOk P E) {S:Option (Bool × List Nat)} {base:Nat} {ops:Array Oper} {b:List (List Nat)} {k:St→Option R} {r:R} {Q:Exit→Act→World→Prop}
  (hpair:∀i j x y,i<j→ops[i]? = some x→ops[j]? = some y→i∈b.getD j []∨JT tt E (S.map (·.1)) ops.toList x y=true)
  (hback:∀(j:Nat) (y:Oper),ops[j]? = some y→∀e∈y.after,Region.binds .any e=true→e.on<j)
  (hclo:∀(j:Nat) (y:Oper),ops[j]? = some y→∀i∈b.getD j [],∃e∈y.after,Region.binds .any e=true∧(e.on=i∨i∈b.getD e.on [])) :
  ∀(fuel:Nat) (listed:Array Bool) (rem:List AD) (w:World) (c:lj) (st:St) (a:Act),rem.length≤fuel→Left ops b listed rem→Good tt base (ops.toList.filter (cw tt)).length rem st.hp→N6 w c st a→Ka tt E S base ops.toList rem st k=some r →
   Goes w c st a k r (Q .normal)→wpAny P .any ops Q fuel listed a w:=by
 intro fuel
 -- if nothing is ready, nothing is left
 have hnone:∀listed rem,Left ops b listed rem→Region.ready .any ops listed = []→rem = []:=by
  intro listed rem lf hr
  cases rem with
  | nil=>rfl
  | cons x rest =>
   have:x.1∈Region.ready .any ops listed:=by
    rw[mem_ready]
    refine ⟨lf.un x (by simp),x.2.1,lf.op x (by simp),fun e he hb => ?_⟩
    have kY:=hback x.1 x.2.1 (lf.op x (by simp)) e he hb
    have hx:x.1<ops.size:=(Array.getElem?_eq_some_iff.1 (lf.op x (by simp))).1
    rw[Ub (by rw[lf.size]; omega)]
    intro hun
    obtain ⟨y,hy,ey⟩:=lf.all _ hun
    rcases List.mem_cons.1 hy with rfl|hy
    ·omega
    ·have:=(List.pairwise_cons.1 lf.sorted).1 y hy
     omega
   rw[hr]at this
   cases this
 induction fuel with
 | zero =>
  intro listed rem w c st a hl lf g jz hk go
  obtain rfl:rem = []:=List.eq_nil_of_length_eq_zero (by omega)
  refine ⟨?_,go a w st c jz (.refl _ _ _) rfl hk⟩
  cases hr:Region.ready .any ops listed with
  | nil=>rfl
  | cons i l =>
   have hi:i∈Region.ready .any ops listed:=by rw[hr]; simp
   obtain ⟨x,hx,_⟩:=lf.all i (mem_ready.1 hi).1
   cases hx
 | succ fuel ih =>
  intro listed rem w c st a hl lf g jz hk go
  refine ⟨fun hr => ?_,fun i hi => ?_⟩
  ·obtain rfl:=hnone _ _ lf hr
   exact go a w st c jz (.refl _ _ _) rfl hk
  ·obtain ⟨hun,o,ho,hdone⟩:=mem_ready.1 hi
   obtain ⟨x,hx,rfl⟩:=lf.all i hun
   obtain ⟨pre,post,rfl⟩:=List.append_of_mem hx
   have hox:=lf.op x (by simp)
   rw[hox]at ho
   cases ho
   have hsort:=lf.sorted
   rw[List.pairwise_append,List.pairwise_cons]at hsort
   have hbx:∀j∈b.getD x.1 [],listed.getD j false=true:=fun j hj=>by
    obtain ⟨e,he,hb,hor⟩:=hclo x.1 x.2.1 hox j hj
    have hel:=hdone e he hb
    rcases hor with rfl|hj
    ·exact hel
    ·exact lf.closed _ hel j hj
   have hpr:∀y∈pre,JT tt E (S.map (·.1)) ops.toList y.2.1 x.2.1=true:=fun y hy=>by
    rcases hpair y.1 x.1 y.2.1 x.2.1 (hsort.2.2 y hy x (by simp)) (lf.op y (by simp[hy])) hox with h1|h1
    ·have h2:=hbx _ h1
     have h3:=lf.un y (by simp[hy])
     have hy':y.1<ops.size:=(Array.getElem?_eq_some_iff.1 (lf.op y (by simp[hy]))).1
     rw[Ub (by rw[lf.size]; exact hy')]at h2
     exact (h2 h3).elim
    ·exact h1
   have O8:=bubble T hE jz g hpr hk
   have hsize:x.1<listed.size:=by rw[lf.size]; exact (Array.getElem?_eq_some_iff.1 hox).1
   have lf':Left ops b (listed.setIfInBounds x.1 true) (pre++post):=by
    have hs:List.Sublist (pre++post) (pre++x::post):=List.Sublist.append (List.Sublist.refl _) (List.sublist_cons_self _ _)
    have ju:∀y∈pre++post,x.1≠y.1:=fun y hy=>by
     rcases List.mem_append.1 hy with hy|hy
     ·have:=hsort.2.2 y hy x (by simp); omega
     ·have:=hsort.2.1.1 y hy; omega
    refine ⟨by simp[lf.size],lf.sorted.sublist hs,fun y hy=>lf.op y (hs.subset hy),fun y hy => ?_,fun j hj => ?_,fun m hm j hj => ?_⟩
    ·rw[getD_set_ne true (ju y hy)]; exact lf.un y (hs.subset hy)
    ·by_cases e:x.1=j
     ·subst e; simp[hsize]at hj
     ·rw[getD_set_ne true e]at hj
      obtain ⟨y,hy,ey⟩:=lf.all j hj
      refine ⟨y,?_,ey⟩
      rcases List.mem_append.1 hy with h1|h1
      ·exact List.mem_append_left _ h1
      ·rcases List.mem_cons.1 h1 with rfl|h1
       ·exact (e ey).elim
       ·exact List.mem_append_right _ h1
    ·refine getD_set_true ?_
     by_cases e:x.1=m
     ·subst e; exact hbx j hj
     ·rw[getD_set_ne false e]at hm; exact lf.closed m hm j hj
   have hl':(pre++post).length≤fuel:=by simp at hl ⊢; omega
   unfold wpOp
   simp only[hox]
   rcases II jz O8 with ⟨hw,O8⟩|⟨hw,O8⟩
   ·rw[if_pos hw]
    have O8:DC tt E (drS tt S base x.2.1) x.2.2 x.2.1 st (fun QE=>Ka tt E S base ops.toList (pre++post) QE k)=some r:=by
     cases hS:NX tt E base S ops.toList x.2.1 (ev st.fr) st.hp with
     | true=>rw[hS]at O8; exact O8
     | false=>rw[hS]at O8; cases O8
    refine .inl (Lb T hE O8 jz (fun ha=>(g.slot x (by simp) ha).2) fun d w' wW c' v sim' xt kp _ _ _ uQ => ?_)
    exact ih _ _ w' c' wW _ hl' lf' (g.step kp) sim' uQ fun a2 w2 Gj c2 s2 x2 d2 k2=>go a2 w2 Gj c2 s2 (xt.trans x2) (d2.trans (put_defers _ _ _)) k2
   ·rw[if_neg (by simp[hw])]
    exact ih _ _ w c ⟨ow st.fr x.2.1.dst (.tuple []),st.hp⟩ (a.put x.2.1.dst undef) hl' lf' (g.step (.refl _ _ _)) ⟨jz.wf,E0 jz.fr _ QD⟩ O8 fun a2 w2 Gj c2 s2 x2 d2 k2=>go a2 w2 Gj c2 s2 x2 (d2.trans (put_defers _ _ _)) k2
theorem Mi (n:Nat):Ext w h c { w with drawn:=n } h c where
 os:=rfl
 tape:=rfl
 output:=rfl
 size:=Nat.le_refl _
 used:=fun _ hi=>hi
 same:=fun i hi hd=>⟨HS (Me hi.2 hd) (fun _ _ _ => .inr trivial),rfl,rfl⟩
 cell:=fun _ _ _ _=>rfl
 block:=fun _ _ _=>rfl
 AP:=fun _ _ _ ho=>ho
 ext:=rfl
 arr:=fun b arr e fz hb=>⟨arr,fz,hb,rfl⟩
theorem drawn_wf (wf:WF w h c) (n:Nat):WF { w with drawn:=n } h c where
 lay:=wf.vF (Mi n)
 Cc:=wf.Cc
 sL:=wf.sL
 obj:=fun i hi=>by
  by_cases hl:(h.at i).live
  ·exact (wf.obj i hi).zC (Mi n) (fun _ _=>rfl) rfl rfl
  ·have h0:h.at i = .free∨h.at i = .dead:=by revert hl; cases h.at i <;> simp[cj.live]
   rcases h0 with h0|h0 <;> rw[h0] <;> trivial
 inj:=wf.inj
theorem RA (M:List Nat) (i:Nat):∀(es:List Nat) (m:Nat),(es.foldl (fun m e=>m ||| (Nat.pow 2 e ||| M.getD e 0)) m).testBit i=true→m.testBit i=true∨∃e∈es,e=i∨(M.getD e 0).testBit i=true
 | [],m,h => .inl h
 | e::es,m,h=>by
  rcases RA M i es _ h with h|⟨x,hx,h⟩
  ·rw[Nat.testBit_or,Nat.testBit_or,Bool.or_eq_true,Bool.or_eq_true]at h
   rcases h with h|h|h
   ·exact .inl h
   ·have h':(2 ^ e).testBit i=true:=h
    rw[Nat.testBit_two_pow]at h'
    exact .inr ⟨e,by simp, .inl (of_decide_eq_true h')⟩
   ·exact .inr ⟨e,by simp, .inr h⟩
  ·exact .inr ⟨x,by simp[hx],h⟩
theorem Ld {n j i:Nat} {M:List Nat} (hj:j<n):i∈(beforeL n M).getD j []↔i<n∧(M.getD j 0).testBit i=true:=by
 unfold beforeL
 rw[List.getD_eq_getElem?_getD,List.getElem?_map,List.getElem?_range hj]
 simp
theorem draw_sound (T:A6 P tt) (hm:P.follows .mixedOrders=true) {E:Env R} (hE:EOk P E) {id:Nat} {ops:Array Oper} {k:St→Option R} {r:R} {Q:Exit→Act→World→Prop} {st:St} {a:Act}
  (hk:Mc tt E ops.toList true st k=some r) (jz:N6 w c st a) (go:Goes w c st a k r (Q .normal)):(Code.region id ops true).wp P Q a w:=by
 obtain ⟨S,hd,hk⟩:∃S:Option (Bool × List Nat),K4 tt E (S.map (·.1)) ops.toList=true∧Ka tt E S st.hp.length ops.toList (number tt ops.toList 0 st.hp.length) ⟨st.fr,st.hp++List.replicate (ops.toList.filter (cw tt)).length .free⟩ k=some r:=by
  simp only[Mc,if_true]at hk
  split at hk
  ·rename_i hd
   rw[XO _ 0]at hk
   exact ⟨none,hd,hk⟩
  ·split at hk
   ·rename_i hd
    rw[S4 _ 0]at hk
    exact ⟨some (true,Ts ops.toList st.fr),hd,hk⟩
   ·split at hk
    ·rename_i hd
     rw[S4 _ 0]at hk
     exact ⟨some (false,Tt ops.toList st.fr),hd,hk⟩
    ·cases hk
 refine wp_region_any hm ?_
 have DF:∀j,j<ops.size→((List.range j).all (fun i=>((OL ops.toList).getD j 0).testBit i||JT tt E (S.map (·.1)) ops.toList (ops.toList.getD i default) (ops.toList.getD j default))=true ∧
   (Iz (ops.toList.getD j default)).all (fun i=>Nat.blt i j)=true∧(OL ops.toList).getD j 0=SY (OL ops.toList) (Iz (ops.toList.getD j default))):=by
  intro j hj
  unfold K4 at hd
  simp only at hd
  rw[List.all_eq_true]at hd
  have:=hd j (by simpa using hj)
  simp only[Bool.and_eq_true]at this
  exact ⟨this.1.1,this.1.2,Nat.eq_of_beq_eq_true this.2⟩
 have IG:∀(j:Nat) (y:Oper),ops[j]? = some y→ops.toList.getD j default=y∧j<ops.size:=fun j y hy=>by
  refine ⟨?_,(Array.getElem?_eq_some_iff.1 hy).1⟩
  rw[List.getD,Array.getElem?_toList,hy]; rfl
 have hbind:∀(y:Oper) (n:Nat),n∈Iz y↔∃e∈y.after,Region.binds .any e=true∧e.on=n:=by
  intro y n
  simp[Iz,List.mem_map,List.mem_filter,and_assoc]
 have sim':N6 { w with drawn:=w.drawn+1 } c ⟨st.fr,st.hp++List.replicate (ops.toList.filter (cw tt)).length .free⟩ a :=
  ⟨drawn_wf (Lc jz.wf _) _,(jz.fr.mono (wY _)).mono (Mi _)⟩
 refine any_sound T hE (S:=S) (base:=st.hp.length) (b:=beforeL ops.size (OL ops.toList)) (fun i j x y Ba hx hy => ?_) (fun j y hy e he hb => ?_) (fun j y hy i hi => ?_) ops.size _ (number tt ops.toList 0 st.hp.length) _ c _ a ?_ ?_ ?_ sim' hk ?_
 ·obtain ⟨h1,h2⟩:=IG i x hx
  obtain ⟨h3,h4⟩:=IG j y hy
  have:=List.all_eq_true.1 (DF j h4).1 i (by simpa using Ba)
  rw[h1,h3,Bool.or_eq_true]at this
  rcases this with h|h
  ·exact .inl ((Ld h4).2 ⟨h2,h⟩)
  ·exact .inr h
 ·obtain ⟨h3,h4⟩:=IG j y hy
  have:=(DF j h4).2.1
  rw[h3,List.all_eq_true]at this
  simpa using this e.on ((hbind y _).2 ⟨e,he,hb,rfl⟩)
 ·obtain ⟨h3,h4⟩:=IG j y hy
  have heq:=(DF j h4).2.2
  have kY:=(DF j h4).2.1
  rw[h3]at heq kY
  obtain ⟨hin,hbit⟩:=(Ld h4).1 hi
  rw[heq]at hbit
  unfold SY at hbit
  rcases RA _ i _ _ hbit with h|⟨n,hn,h⟩
  ·simp at h
  ·obtain ⟨e,he,hb,rfl⟩:=(hbind y n).1 hn
   refine ⟨e,he,hb,h.imp (fun h=>h) fun h => ?_⟩
   have:=List.all_eq_true.1 kY e.on hn
   have hon:e.on<j:=by simpa using this
   exact (Ld (Nat.lt_trans hon h4)).2 ⟨hin,h⟩
 ·have:∀(l:List Oper) (i id:Nat),(number tt l i id).length=l.length:=by
   intro l
   induction l with
   | nil=>intros; rfl
   | cons o l ih=>intros; simp[number,ih]
  rw[this]; simp
 ·refine ⟨by simp,(IL _ _ _).imp fun h=>h.1,fun x hx => ?_,fun x hx => ?_,fun i hi => ?_,fun m hm => ?_⟩
  ·obtain ⟨_,_,h3,_⟩:=Cx _ _ _ x hx
   simpa using h3
  ·obtain ⟨_,h2,_⟩:=Cx _ _ _ x hx
   simp at h2
   simp[h2]
  ·have:i<ops.size:=by
    rcases Nat.lt_or_ge i ops.size with h|h
    ·exact h
    ·simp[Nat.not_lt.2 h]at hi
   exact Ua _ 0 _ i (Nat.zero_le _) (by simpa using this)
  ·rcases Nat.lt_or_ge m ops.size with h|h
   ·simp[h]at hm
   ·simp[Nat.not_lt.2 h]at hm
 ·refine ⟨fun z hz ha=>(Cx _ _ _ z hz).2.2.2.2 ha,fun z hz ha => ?_,(IL _ _ _).imp fun h=>h.2⟩
  obtain ⟨_,_,_,h4,h5⟩:=Cx _ _ _ z hz
  have h5:=h5 ha
  refine ⟨h4,by simp; omega,?_⟩
  rw[kV h4]
  have:z.2.2 - st.hp.length<(ops.toList.filter (cw tt)).length:=by omega
  simp[aO.at,List.getD,List.getElem?_replicate,this]
 ·exact fun a2 w2 Gj c2 s2 x2 d2 k2=>go a2 w2 Gj c2 s2 (((wY _).trans (Mi _)).trans x2) d2 k2
end
section
variable {P:Program} {tt:eF} {w w':World} {h h':aO} {c c':lj} {R:Type}
theorem RB (h:aO):∀(n:Nat) (l rest seen:List Nat),(seen++l).Nodup→l.length≤n→∃t,reach h n (l++rest) seen=seen++l++t
 | n, [],rest,seen,_,_=>by
  have key:∀(n:Nat) (todo seen:List Nat),∃t,reach h n todo seen=seen++t:=by
   intro n
   induction n with
   | zero=>exact fun _ _=>⟨[],by simp[reach]⟩
   | succ n ih =>
    intro todo seen
    cases todo with
    | nil=>exact ⟨[],by simp[reach]⟩
    | cons i todo =>
     simp only[reach]
     split
     ·exact ih _ _
     ·obtain ⟨t,ht⟩:=ih (todo++(h.at i).ids) (seen ++ [i])
      exact ⟨i::t,by rw[ht]; simp⟩
  obtain ⟨t,ht⟩:=key n rest seen
  exact ⟨t,by simpa using ht⟩
 | 0,i::l,_,_,_,hl=>by simp at hl
 | n+1,i::l,rest,seen,hn,hl=>by
  have hi:i∉seen:=fun hm=>by
   rw[List.nodup_append]at hn
   exact hn.2.2 i hm i (by simp) rfl
  obtain ⟨t,ht⟩:=RB h n l (rest++(h.at i).ids) (seen ++ [i]) (by simpa using hn) (by simpa using hl)
  refine ⟨t,?_⟩
  simp only[List.cons_append,reach,List.contains_iff_mem,hi,if_false,List.append_assoc]at ht ⊢
  simpa using ht
theorem ZI {w0:World} {h0:aO} {c0:lj} (x:Ext w0 h0 c0 w h c) {ord:List Nat} (hf:∀i,i<h0.length→ord[i]? = some i):Ext w0 h0 c0 w (h.pick ord) (c.pick ord c.ext) where
 os:=x.os
 tape:=x.tape
 output:=x.output
 size:=x.size
 used:=fun i hi=>by
  have e:=hf i hi.1
  refine ⟨by simpa [aO.pick]using (List.getElem?_eq_some_iff.1 e).1,?_⟩
  rw[zt,e]
  simp only[ne_eq,HP]
  exact (x.used i hi).2
 same:=fun i hi hd=>by
  have e:=hf i hi.1
  rw[zt,e]at hd ⊢
  simp only[ne_eq,O2]at hd
  obtain ⟨s1,s2,s3⟩:=x.same i hi hd
  exact ⟨Wp.2 s1,by simp[lj.pick,e,s2],by simp[lj.pick,List.getD,e,s3]⟩
 cell:=x.cell
 block:=x.block
 AP:=fun b y hb ho=>by
  obtain ⟨i,_,f,g1,g2,g3⟩:=HR ho
  exact x.AP b y hb ⟨i,f,g1,g2,g3⟩
 ext:=x.ext
 arr:=x.arr
theorem O9 (wf:WF w h c) {ord:List Nat} (J9:ord.Nodup):WF w (h.pick ord) (c.pick ord c.ext) :=
 pick_wf wf J9 (fun _ _ hf=>hf.2) wf.sL (fun b x ⟨i,_,f,g1,g2,g3⟩=>wf.Cc b x ⟨i,f,g1,g2,g3⟩)
theorem Nf {ord:List Nat} {cs:List V} {ds:List Value} (r:cT w h c cs ds):cT w (h.pick ord) (c.pick ord c.ext) (V.Cq (Cl ord) cs) ds :=
 r.sV (TV fun _ _ hf=>hf.2)
theorem front_get {m:Nat} {t:List Nat} {i:Nat} (hi:i<m):(List.range m++t)[i]? = some i:=by
 rw[List.getElem?_append_left (by simpa using hi),List.getElem?_range hi]
theorem RC (h:aO) {m n:Nat} (hmn:m≤n) (rest:List Nat):(reach h n (List.range m++rest) []).Nodup∧∀i,i<m→(reach h n (List.range m++rest) [])[i]? = some i:=by
 refine ⟨GG h _ _ _ (by simp),fun i hi => ?_⟩
 obtain ⟨t,ht⟩:=RB h n (List.range m) rest [] (by simpa using List.nodup_range) (by simpa using hmn)
 rw[ht]
 simpa using front_get (t:=t) hi
theorem Uc {w0:World} {h0:aO} {c0:lj} {st:St} {a:Act} (jz:N6 w c st a) (x:Ext w0 h0 c0 w st.hp c) (hm:h0.length≤200):∃c',N6 w c' (st.gc h0.length) a∧Ext w0 h0 c0 w (st.gc h0.length).hp c':=by
 obtain ⟨h1,h2⟩:=RC st.hp (m:=h0.length) (n:=256) (by omega) (V.wm st.fr)
 exact ⟨_,⟨O9 jz.wf h1,Nf jz.fr⟩,ZI x h2⟩
theorem N9 {fr:List V} {ds:List Value} (r:cT w h c fr ds) (live drop:List Nat):cT w h c (IA live drop fr) ds:=by
 refine ⟨by simp[IA,r.1],fun j v d hv hd => ?_⟩
 unfold IA at hv
 rw[List.getElem?_map,List.getElem?_zipIdx]at hv
 cases e:fr[j]? with
 | none=>rw[e]at hv; cases hv
 | some u =>
  rw[e]at hv
  simp at hv
  subst hv
  have ru:=r.2 j u d e hd
  split
  ·split
   ·exact Rw ru
   ·exact ru
  ·exact .undef _
theorem E1:∀(l:List (Nat × Ty)) (st:St) (c:lj) (a:Act),N6 w c st a→∃c',N6 w c' (NY l st) a∧Ext w st.hp c w (NY l st).hp c'
 | [],st,c,a,jz=>⟨c,jz, .refl _ _ _⟩
 | (d,T)::l,st,c,a,jz=>by
  have key:∀(U:Ty),(∀x,a.tmps.toList[d]? = some x→x = .slice none 0 0) →
    ∃c',N6 w c' ⟨st.fr.set d (.sl U [] (.own st.hp.length)),st.hp ++ [.tok]⟩ a∧Ext w st.hp c w (st.hp ++ [.tok]) c':=by
   intro U hx
   obtain ⟨c',k1,k2,k3⟩:=OX (id:=st.hp.length) (T:=U) (Lc jz.wf 1) (by simp) (by rw[kV (Nat.le_refl _)]; simp[aO.at])
   have e:(st.hp++List.replicate 1 cj.free).set st.hp.length .tok=st.hp ++ [.tok]:=by simp
   rw[e]at k1 k2 k3
   have k4:=(wY (w:=w) (h:=st.hp) (c:=c) 1).trans k2
   refine ⟨c',⟨k1,?_⟩,k4⟩
   have rf:=jz.fr.mono k4
   refine ⟨by simp[rf.1],fun j v x hv XT => ?_⟩
   rw[List.getElem?_set]at hv
   by_cases hj:d=j
   ·subst hj
    rw[if_pos rfl]at hv
    split at hv
    ·cases hv
     rw[hx x XT]
     exact k3
    ·cases hv
   ·rw[if_neg hj]at hv
    exact rf.2 j v x hv XT
  simp only[NY]
  have rd:=jz.fr.getD d undef
  split
  ·rename_i he
   rw[he]at rd
   obtain ⟨c',s',x'⟩:=key T fun x hx=>by
    rw[List.getD,hx]at rd
    cases rd; rfl
   obtain ⟨c2,s2,x2⟩:=E1 l _ c' a s'
   exact ⟨c2,s2,x'.trans x2⟩
  ·rename_i T' l' he
   rw[he]at rd
   have hl:l' = []:=by
    generalize a.tmps.toList.getD d undef=q at rd
    cases rd with
    | sl f ni wj hc hr DE oj =>
     have:=(DE rfl).2
     exact List.eq_nil_of_length_eq_zero (by omega)
   subst hl
   obtain ⟨c',s',x'⟩:=key T' fun x hx=>by
    rw[List.getD,hx]at rd
    simp only[Option.getD_some]at rd
    generalize hn:([]:List T'.den)=nl at rd
    cases rd with
    | sl f ni wj hc hr DE oj =>
     obtain ⟨rfl,rfl⟩:=DE rfl
     subst hn
     rfl
   obtain ⟨c2,s2,x2⟩:=E1 l _ c' a s'
   exact ⟨c2,s2,x'.trans x2⟩
  ·exact E1 l st c a jz
theorem put_nil {st:St} {a:Act} {d:Nat} {v:V} {h':aO} {c':lj} (jz:N6 w c st a) (he:st.fr.getD d .undef = .cV) (k1:WF w h' c') (k4:Ext w st.hp c w h' c') (k3:eG w h' c' v (.slice none 0 0)) :
  N6 w c' ⟨st.fr.set d v,h'⟩ a:=by
 refine ⟨k1,?_⟩
 have rf:=jz.fr.mono k4
 refine ⟨by simp[rf.1],fun j u x hv XT => ?_⟩
 rw[List.getElem?_set]at hv
 by_cases hj:d=j
 ·subst hj
  rw[if_pos rfl]at hv
  split at hv
  ·cases hv
   have rd:=jz.fr.getD d undef
   rw[he,List.getD,XT]at rd
   cases rd
   exact k3
  ·cases hv
 ·rw[if_neg hj]at hv
  exact rf.2 j u x hv XT
theorem new_row (wf:WF w h c) (T:Ty):∃c',WF w (h ++ [.row T []]) c'∧Ext w h c w (h ++ [.row T []]) c'∧eG w (h ++ [.row T []]) c' (.row h.length 0) (.slice none 0 0):=by
 obtain ⟨c',k1,k2,k3⟩:=TR (id:=h.length) (T:=T) (Lc wf 1) (by simp) (by rw[kV (Nat.le_refl _)]; simp[aO.at])
 have e:(h++List.replicate 1 cj.free).set h.length (.row T [])=h ++ [.row T []]:=by simp
 rw[e]at k1 k2 k3
 exact ⟨c',k1,(wY 1).trans k2,k3⟩
theorem ZJ (wf:WF w h c) (T:Ty) (rw:Bool):∃c',WF w (h ++ [EF T rw]) c'∧Ext w h c w (h ++ [EF T rw]) c'∧eG w (h ++ [EF T rw]) c' (A9 T rw h.length) (.slice none 0 0):=by
 unfold EF A9
 cases rw with
 | true=>exact new_row wf T
 | false =>
  simp only[cond_false]
  obtain ⟨c',k1,k2,k3⟩:=OX (id:=h.length) (T:=T) (Lc wf 1) (by simp) (by rw[kV (Nat.le_refl _)]; simp[aO.at])
  have e:(h++List.replicate 1 cj.free).set h.length .tok=h ++ [.tok]:=by simp
  rw[e]at k1 k2 k3
  exact ⟨c',k1,(wY 1).trans k2,k3⟩
theorem IM:∀(l:List (Nat × Ty)) (st:St) (c:lj) (a:Act),N6 w c st a→∃c',N6 w c' (K5 l st) a∧Ext w st.hp c w (K5 l st).hp c'
 | [],st,c,a,jz=>⟨c,jz, .refl _ _ _⟩
 | (d,T)::l,st,c,a,jz=>by
  simp only[K5]
  split
  ·rename_i he
   obtain ⟨c',k1,k2,k3⟩:=new_row jz.wf T
   obtain ⟨c2,s2,x2⟩:=IM l ⟨st.fr.set d (.row st.hp.length 0),st.hp ++ [.row T []]⟩ c' a (put_nil jz he k1 k2 k3)
   exact ⟨c2,s2,k2.trans x2⟩
  ·exact IM l st c a jz
theorem QG {i:Nat} {cs ds:List V} (he:h.at i = .cells cs) (hl:ds.length=cs.length):Ext w h c w (h.set i (.cells ds)) c where
 os:=rfl
 tape:=rfl
 output:=rfl
 size:=Nat.le_refl _
 used:=fun j hj=>⟨by simpa using hj.1,by rw[oy]; split; simp; exact hj.2⟩
 same:=fun j hj hd=>by
  rw[oy]at hd ⊢
  split
  ·rename_i hc
   obtain ⟨rfl,_⟩:=hc
   rw[he]
   exact ⟨hl.symm,rfl,rfl⟩
  ·rename_i hc
   rw[if_neg hc]at hd
   exact ⟨HS (Me hj.2 hd) (fun _ _ _ => .inr trivial),rfl,rfl⟩
 cell:=fun _ _ _ _=>rfl
 block:=fun _ _ _=>rfl
 AP:=fun b x _ ho=>by
  obtain ⟨j,f,g1,g2,g3⟩:=ho
  rw[oy]at g2
  split at g2
  ·rename_i hc
   obtain ⟨rfl,_⟩:=hc
   exact ⟨i,f,g1,by rw[he]; exact g2,g3⟩
  ·exact ⟨j,f,g1,g2,g3⟩
 ext:=rfl
 arr:=fun b arr e fz hb=>⟨arr,fz,hb,rfl⟩
theorem cells_wf (wf:WF w h c) {i:Nat} {cs ds:List V} (he:h.at i = .cells cs) (hl:ds.length=cs.length) (FJ:qM w (h.set i (.cells ds)) c i (.cells ds)):WF w (h.set i (.cells ds)) c where
 lay:=wf.vF (QG he hl)
 Cc:=fun b x ho he'=>by
  obtain ⟨j,f,g1,g2,g3⟩:=ho
  refine wf.Cc b x ?_ he'
  rw[oy]at g2
  split at g2
  ·rename_i hc
   obtain ⟨rfl,_⟩:=hc
   exact ⟨i,f,g1,by rw[he]; exact g2,g3⟩
  ·exact ⟨j,f,g1,g2,g3⟩
 sL:=wf.sL
 obj:=fun j hj=>by
  rw[oy]
  split
  ·rename_i hc
   obtain ⟨rfl,_⟩:=hc
   exact FJ
  ·have ho:=wf.obj j (by simpa using hj)
   by_cases hv:(h.at j).live
   ·exact ho.zC (QG he hl) (fun _ _=>rfl) rfl rfl
   ·have h0:h.at j = .free∨h.at j = .dead:=by revert hv; cases h.at j <;> simp[cj.live]
    rcases h0 with h0|h0 <;> rw[h0] <;> trivial
 inj:=fun j k b hj hk h1 h2=>by
  have key:∀j,(aO.at (h.set i (.cells ds)) j).live→(h.at j).live:=fun j hj=>by
   rw[oy]at hj
   split at hj
   ·rename_i hc
    obtain ⟨rfl,_⟩:=hc
    rw[he]; trivial
   ·exact hj
  exact wf.inj j k b (key j hj) (key k hk) h1 h2
theorem Ud {i:Nat} {o':cj} (hf:∀f,(h.at i).from_ f=some 0) (hf':∀f,o'.from_ f=some 0) (xN:(h.at i).jz o') (ju:o' ≠ .free):Ext w h c w (h.set i o') c where
 os:=rfl
 tape:=rfl
 output:=rfl
 size:=Nat.le_refl _
 used:=fun j hj=>⟨by simpa using hj.1,by rw[oy]; split; exact ju; exact hj.2⟩
 same:=fun j hj hd=>by
  rw[oy]at hd ⊢
  split
  ·rename_i hc
   obtain ⟨rfl,_⟩:=hc
   exact ⟨xN,rfl,rfl⟩
  ·rename_i hc
   rw[if_neg hc]at hd
   exact ⟨HS (Me hj.2 hd) (fun _ _ _ => .inr trivial),rfl,rfl⟩
 cell:=fun _ _ _ _=>rfl
 block:=fun _ _ _=>rfl
 AP:=fun b x _ ho=>by
  obtain ⟨j,f,g1,g2,g3⟩:=ho
  rw[oy]at g2
  split at g2
  ·rename_i hc
   obtain ⟨rfl,_⟩:=hc
   rw[hf']at g2
   cases g2
   exact ⟨i,0,g1,hf _,g3⟩
  ·exact ⟨j,f,g1,g2,g3⟩
 ext:=rfl
 arr:=fun b arr e fz hb=>⟨arr,fz,hb,rfl⟩
theorem turn_wf (wf:WF w h c) {i:Nat} {o':cj} (hf:∀f,(h.at i).from_ f=some 0) (hf':∀f,o'.from_ f=some 0) (xN:(h.at i).jz o') (ju:o' ≠ .free) (FJ:qM w (h.set i o') c i o'):WF w (h.set i o') c where
 lay:=wf.vF (Ud hf hf' xN ju)
 Cc:=fun b x ho he'=>by
  obtain ⟨j,f,g1,g2,g3⟩:=ho
  refine wf.Cc b x ?_ he'
  rw[oy]at g2
  split at g2
  ·rename_i hc
   obtain ⟨rfl,_⟩:=hc
   rw[hf']at g2
   cases g2
   exact ⟨i,0,g1,hf _,g3⟩
  ·exact ⟨j,f,g1,g2,g3⟩
 sL:=wf.sL
 obj:=fun j hj=>by
  rw[oy]
  split
  ·rename_i hc
   obtain ⟨rfl,_⟩:=hc
   exact FJ
  ·have ho:=wf.obj j (by simpa using hj)
   by_cases hv:(h.at j).live
   ·exact ho.zC (Ud hf hf' xN ju) (fun _ _=>rfl) rfl rfl
   ·have h0:h.at j = .free∨h.at j = .dead:=by revert hv; cases h.at j <;> simp[cj.live]
    rcases h0 with h0|h0 <;> rw[h0] <;> trivial
 inj:=fun j k b hj hk h1 h2=>by
  have key:∀j,(aO.at (h.set i o') j).live→(h.at j).live:=fun j hj=>by
   rw[oy]at hj
   split at hj
   ·rename_i hc
    obtain ⟨rfl,_⟩:=hc
    exact vi (hf 0)
   ·exact hj
  exact wf.inj j k b (key j hj) (key k hk) h1 h2
theorem vj:∀(l:List (Nat × Nat × Ty × Bool)) (st:St) (c:lj) (a:Act),N6 w c st a→∃c',N6 w c' (EX l st) a∧Ext w st.hp c w (EX l st).hp c'
 | [],st,c,a,jz=>⟨c,jz, .refl _ _ _⟩
 | (i,o,T,rw)::l,st,c,a,jz=>by
  simp only[EX]
  split
  ·rename_i cs Dr
   split
   ·rename_i ho
    obtain ⟨c',k1,k2,k3⟩:=ZJ jz.wf T rw
    have hi:=aO.ig Dr (by simp)
    have hcs':aO.at (st.hp ++ [EF T rw]) i = .cells cs:=by rw[mn hi]; exact Dr
    have e:st.hp.set i (.cells (cs.set o (A9 T rw st.hp.length))) ++ [EF T rw]=(st.hp ++ [EF T rw]).set i (.cells (cs.set o (A9 T rw st.hp.length))):=by
     rw[List.set_append_left _ _ hi]
    rw[e]
    have hl:(cs.set o (A9 T rw st.hp.length)).length=cs.length:=by simp
    have x1:=QG (w:=w) (c:=c') hcs' hl
    have FJ:=k1.obj i (by simp; omega)
    rw[hcs']at FJ
    obtain ⟨b,arr,el,g1,g2,g3⟩:=FJ
    have w1:=cells_wf k1 hcs' hl (by
     refine ⟨b,arr,el,g1,g2,?_⟩
     have g3':=g3.mono x1
     refine ⟨by simpa using g3'.1,fun j v d hv hd => ?_⟩
     rw[List.getElem?_set]at hv
     by_cases hj:o=j
     ·subst hj
      rw[if_pos rfl]at hv
      split at hv
      ·cases hv
       have rd:=g3.getD o undef
       rw[ho,List.getD,hd]at rd
       cases rd
       exact k3.mono x1
      ·cases hv
     ·rw[if_neg hj]at hv
      exact g3'.2 j v d hv hd)
    have x2:=k2.trans x1
    obtain ⟨c2,s2,x3⟩:=vj l ⟨st.fr,(st.hp ++ [EF T rw]).set i (.cells (cs.set o (A9 T rw st.hp.length)))⟩ c' a ⟨w1,jz.fr.mono x2⟩
    exact ⟨c2,s2,x2.trans x3⟩
   ·exact vj l st c a jz
  ·rename_i v Dr
   split
   ·obtain ⟨c',k1,k2,k3⟩:=ZJ jz.wf T rw
    have hi:=aO.ig Dr (by simp)
    have hcs':aO.at (st.hp ++ [EF T rw]) i = .oG .cV:=by rw[mn hi]; exact Dr
    have e:st.hp.set i (.oG (A9 T rw st.hp.length)) ++ [EF T rw]=(st.hp ++ [EF T rw]).set i (.oG (A9 T rw st.hp.length)):=by
     rw[List.set_append_left _ _ hi]
    rw[e]
    have hf:∀f,(aO.at (st.hp ++ [EF T rw]) i).from_ f=some 0:=fun f=>by rw[hcs']; rfl
    have xN:(aO.at (st.hp ++ [EF T rw]) i).jz (.oG (A9 T rw st.hp.length)):=by rw[hcs']; trivial
    have x1:=Ud (w:=w) (c:=c') hf (o' := .oG (A9 T rw st.hp.length)) (fun _=>rfl) xN (by simp)
    have FJ:=k1.obj i (by simp; omega)
    rw[hcs']at FJ
    obtain ⟨b,p,d,g1,g2,g3,g4⟩:=FJ
    have w1:=turn_wf k1 hf (o' := .oG (A9 T rw st.hp.length)) (fun _=>rfl) xN (by simp) (by
     cases g4
     exact ⟨b,p,_,g1,g2,g3,k3.mono x1⟩)
    have x2:=k2.trans x1
    obtain ⟨c2,s2,x3⟩:=vj l ⟨st.fr,(st.hp ++ [EF T rw]).set i (.oG (A9 T rw st.hp.length))⟩ c' a ⟨w1,jz.fr.mono x2⟩
    exact ⟨c2,s2,x2.trans x3⟩
   ·exact vj l st c a jz
  ·exact vj l st c a jz
theorem norm_sound {w0:World} {h0:aO} {c0:lj} {st:St} {a:Act} (jz:N6 w c st a) (x:Ext w0 h0 c0 w st.hp c) (hm:h0.length≤200) (hint:Hint) :
  ∃c',N6 w c' (norm h0.length hint st) a∧Ext w0 h0 c0 w (norm h0.length hint st).hp c':=by
 obtain ⟨c,jz,x⟩:∃c',N6 w c' (preGc h0.length hint ⟨IA hint.live hint.drop st.fr,st.hp⟩) a∧Ext w0 h0 c0 w (preGc h0.length hint ⟨IA hint.live hint.drop st.fr,st.hp⟩).hp c':=by
  unfold preGc
  split
  ·exact ⟨c,⟨jz.wf,N9 jz.fr _ _⟩,x⟩
  ·exact Uc (st:=⟨IA hint.live hint.drop st.fr,st.hp⟩) ⟨jz.wf,N9 jz.fr _ _⟩ x hm
 obtain ⟨c1,s1,x1⟩:=E1 hint.own _ c a jz
 obtain ⟨c2,s2,x2⟩:=IM hint.rows _ c1 a s1
 obtain ⟨c3,s3,x3⟩:=vj hint.cells _ c2 a s2
 exact Uc s3 (((x.trans x1).trans x2).trans x3) hm
theorem trim_sound {w0:World} {h0:aO} {c0:lj} {st:St} {a:Act} (jz:N6 w c st a) (x:Ext w0 h0 c0 w st.hp c) (hm:h0.length≤200) (hint:Hint) :
  ∃c',N6 w c' (trim h0.length hint st) a∧Ext w0 h0 c0 w (trim h0.length hint st).hp c' :=
 Uc (st:=⟨IA hint.out [] st.fr,st.hp⟩) ⟨jz.wf,N9 jz.fr _ _⟩ x hm
theorem Ue:∀(ts:List Nat) (vs:List V) (ds:List Value),ts.length=ds.length→cT w h c vs ds→cT w h c (canonL tt ts vs) ds
 | [],vs,ds,hl,r=>by
  have:ds = []:=List.eq_nil_of_length_eq_zero hl.symm
  subst this
  exact .nil
 | t::ts, [],ds,hl,r=>by
  have:ds = []:=List.eq_nil_of_length_eq_zero (by simpa using r.1.symm)
  subst this
  simp at hl
 | t::ts,v::vs, [],hl,r=>by simp at hl
 | t::ts,v::vs,d::ds,hl,r => .cons (Wy r.head) (Ue ts vs ds (by simpa using hl) r.tail)
end
section
variable {P:Program} {tt:eF} {R:Type}
def xP (fr:List V) (log:List (Nat × V)):List V:=log.foldr (fun x f=>f.set x.1 x.2) fr
theorem Cy (fr:List V):∀log:List (Nat × V),(xP fr log).length=fr.length
 | []=>rfl
 | x::log=>by simp[xP]; exact Cy fr log
theorem beqF (a b:Nat):Nat.beq a b=decide (a=b):=by
 cases hb:Nat.beq a b with
 | true=>simp[Nat.eq_of_beq_eq_true hb]
 | false=>simp[Nat.ne_of_beq_eq_false hb]
theorem look_eq (fr:List V) (t:Nat) (d:V) (hd:fr.getD t .undef=d):∀log:List (Nat × V),(∀x∈log,x.1<fr.length)→Nd log t d=(xP fr log).getD t .undef
 | [],_=>hd.symm
 | x::log,h=>by
  have ih:=look_eq fr t d hd log fun y hy=>h y (by simp[hy])
  have hx:=h x (by simp)
  have hl:=Cy fr log
  have e:xP fr (x::log)=(xP fr log).set x.1 x.2:=rfl
  have e2:Nd (x::log) t d=cond (Nat.beq x.1 t) x.2 (Nd log t d):=rfl
  rw[e,e2,beqF,ih]
  by_cases Zq:x.1=t
  ·subst Zq
   simp[List.getD,List.getElem?_set_self,hl,hx]
  ·simp[Zq,List.getD,List.getElem?_set_ne Zq]
theorem ZK {β:Type} (t:Nat) (d:V) (k:V→β):∀log:List (Nat × V),Tu log t d k=k (Nd log t d)
 | []=>rfl
 | x::log=>by
  have ih:=ZK t d k log
  have e1:Tu (x::log) t d k=cond (Nat.beq x.1 t) (k x.2) (Tu log t d k):=rfl
  have e2:Nd (x::log) t d=cond (Nat.beq x.1 t) x.2 (Nd log t d):=rfl
  rw[e1,e2,ih]
  cases Nat.beq x.1 t <;> rfl
def Cz (log:List (Nat × V)):Nat→List V→List V
 | _, [] => []
 | i,v::r=>Nd log i v::Cz log (i+1) r
theorem RD {β:Type} (log:List (Nat × V)):∀(fr:List V) (i:Nat) (k:List V→β),
  List.rec (motive:=fun _=>Nat→(List V→β)→β) (fun _ k=>k []) (fun v _ ih i k=>Tu log i v fun v'=>ih (i+1) fun r=>k (v'::r)) fr i k=k (Cz log i fr)
 | [],_,_=>rfl
 | v::fr,i,k=>by
  show Tu log i v (fun v'=>List.rec (motive:=fun _=>Nat→(List V→β)→β) (fun _ k=>k []) (fun v _ ih i k=>Tu log i v fun v'=>ih (i+1) fun r=>k (v'::r)) fr (i+1) fun r=>k (v'::r))=_
  rw[ZK,RD log fr (i+1)]
  rfl
theorem Ng (log:List (Nat × V)):∀(fr:List V) (i j:Nat),(Cz log i fr)[j]? = (fr[j]?).map fun v=>Nd log (i+j) v
 | [],_,_=>by simp[Cz]
 | v::fr,i,0=>by simp[Cz]
 | v::fr,i,j+1=>by
  simp only[Cz,List.getElem?_cons_succ]
  rw[Ng log fr (i+1) j]
  congr 1
  funext v
  congr 1
  omega
theorem mergeC_eq {β:Type} (fr:List V) (log:List (Nat × V)) (hl:∀x∈log,x.1<fr.length) (k:List V→β):mergeC log fr k=k (xP fr log):=by
 have h1:mergeC log fr k=k (Cz log 0 fr):=RD log fr 0 k
 rw[h1]
 congr 1
 apply List.ext_getElem?
 intro j
 rw[Ng,Nat.zero_add]
 cases hj:fr[j]? with
 | none =>
  have:(xP fr log)[j]? = none:=by
   rw[List.getElem?_eq_none_iff,Cy]
   exact List.getElem?_eq_none_iff.1 hj
  rw[this]; rfl
 | some v =>
  have kY:j<(xP fr log).length:=by rw[Cy]; exact (List.getElem?_eq_some_iff.1 hj).1
  have h2:=look_eq fr j v (by simp[List.getD,hj]) log hl
  rw[Option.map_some,h2]
  simp[List.getD,List.getElem?_eq_getElem kY]
theorem evF_eq (fr:List V) (log:List (Nat × V)) (hl:∀x∈log,x.1<fr.length):evF fr log=ev (xP fr log):=by
 funext x
 cases x with
 | tmp t=>exact look_eq fr t _ rfl log hl
 | _=>rfl
theorem push_eq (fr:List V) (log:List (Nat × V)) (dst:Option Nat) (v:V):xP fr (Wg fr.length log dst v)=ow (xP fr log) dst v:=by
 cases dst with
 | none=>rfl
 | some d =>
  unfold Wg ow
  simp only
  cases h:Nat.blt d fr.length with
  | true=>rfl
  | false =>
   have:¬d<fr.length:=by
    intro h2
    have h3:Nat.blt d fr.length=true:=by simpa using h2
    rw[h3]at h
    cases h
   simp only[cond_false]
   rw[List.set_eq_of_length_le (by rw[Cy]; omega)]
theorem push_ok {fr:List V} {log:List (Nat × V)} (hl:∀x∈log,x.1<fr.length) (dst:Option Nat) (v:V):∀x∈Wg fr.length log dst v,x.1<fr.length:=by
 cases dst with
 | none=>exact hl
 | some d =>
  unfold Wg
  simp only
  cases h:Nat.blt d fr.length with
  | true =>
   intro x hx
   rcases List.mem_cons.1 hx with rfl|hx
   ·simpa using h
   ·exact hl x hx
  | false=>exact hl
theorem stepF_eq {E:Env R} {drawn:Option Nat} {id:Nat} {o:Oper} {st:St} {k:St→Option R}:DC tt E drawn id o st k=stepF tt E drawn id o (ev st.fr) st.hp fun v h=>k ⟨ow st.fr o.dst v,h⟩:=by
 unfold DC stepF
 cases gv tt o.op <;> rfl
theorem guardF_eq {all:List Oper} {o:Oper} {fr:List V} {log:List (Nat × V)} {hp:aO} (hl:∀x∈log,x.1<fr.length) {run skip:St→Option R} {runF skipF:List (Nat × V)→Option R}
  (hr:∀log,(∀x∈log,x.1<fr.length)→runF log=run ⟨xP fr log,hp⟩) (hs:∀log,(∀x∈log,x.1<fr.length)→skipF log=skip ⟨xP fr log,hp⟩) :
  guardF all o fr log runF skipF=zH all o ⟨xP fr log,hp⟩ run skip:=by
 unfold guardF zH
 cases o.guard with
 | none=>exact hr log hl
 | some jw =>
  obtain ⟨j,want⟩:=jw
  simp only
  cases (all[j]?).bind (·.dst)with
  | none=>rfl
  | some d =>
   simp only
   rw[look_eq fr d _ rfl log hl]
   cases hb:(xP fr log).getD d .undef with
   | bool b =>
    have hd:d<fr.length:=by
     rcases Nat.lt_or_ge d fr.length with h|h
     ·exact h
     ·rw[←Cy fr log]at h
      simp[List.getD,List.getElem?_eq_none h]at hb
    have h2:∀v:V,∀x∈(d,v)::log,x.1<fr.length:=fun v x hx=>by
     rcases List.mem_cons.1 hx with rfl|hx
     ·exact hd
     ·exact hl x hx
    simp only
    rw[hr _ (h2 _),hs _ (h2 _),hr _ (h2 _),hs _ (h2 _)]
    rfl
   | tuple vs =>
    cases vs with
    | nil=>exact hs log hl
    | cons _ _=>rfl
   | _=>rfl
theorem XU {E:Env R} {drawn:Option Nat} {all:List Oper} {fr:List V}:∀(l:List Oper) (id:Nat) (log:List (Nat × V)) (hp:aO) (k:St→Option R),(∀x∈log,x.1<fr.length) →
  opsF tt E drawn all fr.length fr l id log hp k=Tr tt E drawn all l id ⟨xP fr log,hp⟩ k
 | [],_,log,hp,k,hl=>by
  simp only[opsF,Tr]
  rw[mergeC_eq fr log hl,HK]
 | o::l,id,log,hp,k,hl=>by
  simp only[opsF,Tr,Iy]
  refine guardF_eq hl (fun log hl => ?_) fun log hl => ?_
  ·rw[stepF_eq,evF_eq fr log hl]
   congr 1
   funext v h
   rw[HK,XU l _ _ _ _ (push_ok hl o.dst v),push_eq]
  ·rw[XU l _ _ _ _ (push_ok hl o.dst _),push_eq]
theorem regionF_eq {E:Env R} {ops:List Oper} {draw:Bool} {st:St} {k:St→Option R}:regionF tt E ops draw st k=Mc tt E ops draw st k:=by
 unfold regionF Mc
 simp only
 have h:=fun (dr:Option Nat) (hp:aO)=>XU (tt:=tt) (E:=E) (drawn:=dr) (all:=ops) (fr:=st.fr) ops st.hp.length [] hp k (by simp)
 rw[h,h]
 rfl
end
section
variable {P:Program} {tt:eF} {w w':World} {h h':aO} {c c':lj} {R:Type}
def Ex.out:Ex→Exit
 | .normal => .normal
 | .exit id => .exit id
 | .goto l => .goto l
 | .ret => .ret
theorem anyT_some {a b:Option R} {r:R} (h:anyT a b=some r):a=some r∧b=some r:=by
 unfold anyT at h
 split at h
 ·rename_i e; exact ⟨h,e▸h⟩
 ·cases h
theorem wp_rounds {b0:Code} {Q:Exit→Act→World→Prop} (I:Nat→Act→World→Prop) (h0:∀a w, ¬I 0 a w) (round:∀n a w,I (n+1) a w→b0.wp P (Exit.then (I n) Q) a w) {n:Nat} {a:Act} {w:World} (hI:I n a w) :
  (Code.loop b0).wp P Q a w:=by
 intro b k cs
 have key:∀n a w,I n a w→∃e a' w',Q e a' w'∧Arrives P (lone (b.at a (.code b0 :: .inLoop b0::k)) cs w) b k cs e a' w':=by
  intro n
  induction n with
  | zero=>exact fun a w h=>(h0 a w h).elim
  | succ n ih =>
   intro a w hI
   obtain ⟨e,a1,w1,hq,FN⟩:=round n a w hI b (.inLoop b0::k) cs
   cases e with
   | normal =>
    obtain ⟨e2,a2,w2,hq2,harr2⟩:=ih a1 w1 hq
    exact ⟨e2,a2,w2,hq2, .of_steps (Steps.trans FN (.one step_inLoop)) harr2⟩
   | exit id=>exact ⟨_,a1,w1,hq, .pass (x := .inLoop b0) rfl (fun _ _ => .inl (by simp)) FN⟩
   | goto l=>exact ⟨_,a1,w1,hq, .pass (x := .inLoop b0) rfl (fun _ _ => .inl (by simp)) FN⟩
   | ret=>exact ⟨_,a1,w1,hq, .pass (x := .inLoop b0) rfl (fun _ _ => .inl (by simp)) FN⟩
   | panic ch=>exact ⟨_,a1,w1,hq, .pass (x := .inLoop b0) rfl (fun _ _ => .inl (by simp)) FN⟩
   | outgrown=>exact ⟨_,a1,w1,hq, .pass (x := .inLoop b0) rfl (fun _ _ => .inl (by simp)) FN⟩
 obtain ⟨e,a',w',hq,FN⟩:=key n a w hI
 exact ⟨e,a',w',hq, .of_steps (.one step_loop) FN⟩
def jn (tt:eF) (E:Env R) (L:Nat→Option (Hint × dC R)) (m:Nat) (a:Code):Prop :=
 ∀hint ls,L (keyOf a)=some (hint,ls)→∀st (K:Ex→St→Option R) r,ls st K=some r→∃n,GC (mj tt E L m a) (norm m hint) n st (fun e st=>K e (trim m hint st))=some r
def aT:Code→List Code
 | .seq a b=>aT a++aT b
 | .cond _ a b=>aT a++aT b
 | .block _ a=>aT a
 | .loop a=>a::aT a
 | _ => []
theorem ZL (body:dC R):∀n st K,iterK body n st K=GC body id n st K
 | 0,_,_=>rfl
 | n+1,st,K=>by
  simp only[iterK,GC]
  congr 1
  funext e wW
  cases e <;> first|rfl|exact ZL body n wW K
section
variable {w0:World} {h0:aO} {c0:lj} {D:List Deferred}
structure At (w0:World) (h0:aO) (c0:lj) (D:List Deferred) (w:World) (st:St) (a:Act) (c:lj):Prop where
 jz:N6 w c st a
 ext:Ext w0 h0 c0 w st.hp c
 defers:a.defers=D
def Ends (w0:World) (h0:aO) (c0:lj) (D:List Deferred) (K:Ex→St→Option R) (r:R) (Q:Exit→Act→World→Prop):Prop :=
 ∀e st a w c,At w0 h0 c0 D w st a c→K e st=some r→Q e.out a w
theorem pc (T:A6 P tt) (hm:P.follows .mixedOrders=true) {E:Env R} (hE:EOk P E) {L:Nat→Option (Hint × dC R)} (hlen:h0.length≤200) {r:R}:∀(code:Code),(∀a∈aT code,jn tt E L h0.length a) →
  ∀(Q:Exit→Act→World→Prop) (K:Ex→St→Option R) (st:St) (a:Act) (w:World) (c:lj),At w0 h0 c0 D w st a c→mj tt E L h0.length code st K=some r→Ends w0 h0 c0 D K r Q→code.wp P Q a w
 | .skip,_,Q,K,st,a,w,c,at_,hk,he=>wp_skip (he .normal st a w c at_ hk)
 | .region id ops draw,_,Q,K,st,a,w,c,at_,hk,he=>by
  simp only[mj,regionF_eq]at hk
  have go:Goes w c st a (fun wW=>K .normal wW) r (Q .normal):=fun a' w' wW c' s x d k=>he .normal wW a' w' c' ⟨s,at_.ext.trans x,d.trans at_.defers⟩ k
  cases draw with
  | true=>exact draw_sound T hm hE hk at_.jz go
  | false=>exact XM T hE hk at_.jz go
 | .seq x y,hl,Q,K,st,a,w,c,at_,hk,he=>by
  simp only[mj]at hk
  refine wp_seq (pc T hm hE hlen x (fun b hb=>hl b (by simp[aT,hb])) _ _ st a w c at_ hk fun e wW a' w' c' at' uQ => ?_)
  cases e with
  | normal=>exact pc T hm hE hlen y (fun b hb=>hl b (by simp[aT,hb])) Q K wW a' w' c' at' uQ he
  | exit i=>exact he (.exit i) wW a' w' c' at' uQ
  | goto l=>exact he (.goto l) wW a' w' c' at' uQ
  | ret=>exact he .ret wW a' w' c' at' uQ
 | .cond cnd x y,hl,Q,K,st,a,w,c,at_,hk,he=>by
  simp only[mj]at hk
  split at hk <;> try (first|cases hk)
  ·rename_i t ht
   have rc:=ev_rep at_.jz.fr cnd
   rw[ht]at rc
   generalize hv:a.eval cnd=v at rc
   cases rc
   refine wp_cond hv ?_
   cases t with
   | true=>exact pc T hm hE hlen x (fun b hb=>hl b (by simp[aT,hb])) Q K st a w c at_ hk he
   | false=>exact pc T hm hE hlen y (fun b hb=>hl b (by simp[aT,hb])) Q K st a w c at_ hk he
  ·rename_i ht
   have rc:=ev_rep at_.jz.fr cnd
   rw[ht]at rc
   generalize hv:a.eval cnd=v at rc
   cases rc with
   | Ms t =>
    refine wp_cond hv ?_
    obtain ⟨h1,h2⟩:=anyT_some hk
    cases t with
    | true=>exact pc T hm hE hlen x (fun b hb=>hl b (by simp[aT,hb])) Q K st a w c at_ h1 he
    | false=>exact pc T hm hE hlen y (fun b hb=>hl b (by simp[aT,hb])) Q K st a w c at_ h2 he
 | .block id x,hl,Q,K,st,a,w,c,at_,hk,he=>by
  simp only[mj]at hk
  refine wp_block (pc T hm hE hlen x (fun b hb=>hl b (by simp[aT,hb])) _ _ st a w c at_ hk fun e wW a' w' c' at' uQ => ?_)
  cases e with
  | normal=>exact he .normal wW a' w' c' at' uQ
  | exit i =>
   simp only[Ex.out,Exit.inBlock]
   simp only at uQ
   split
   ·rename_i hi
    rw[if_pos hi]at uQ
    exact he .normal wW a' w' c' at' uQ
   ·rename_i hi
    rw[if_neg hi]at uQ
    exact he (.exit i) wW a' w' c' at' uQ
  | goto l=>exact he (.goto l) wW a' w' c' at' uQ
  | ret=>exact he .ret wW a' w' c' at' uQ
 | .loop x,hl,Q,K,st,a,w,c,at_,hk,he=>by
  have hx:∀b∈aT x,jn tt E L h0.length b:=fun b hb=>hl b (by simp[aT,hb])
  have main:∀(f g:St→St),(∀w st a c,At w0 h0 c0 D w st a c→∃c',At w0 h0 c0 D w (f st) a c')→(∀w st a c,At w0 h0 c0 D w st a c→∃c',At w0 h0 c0 D w (g st) a c') →
    ∀n st a w c,At w0 h0 c0 D w st a c→GC (mj tt E L h0.length x) f n st (fun e st=>K e (g st))=some r→(Code.loop x).wp P Q a w:=by
   intro f g hf hg n st a w c at_ hk
   refine wp_rounds (fun n a w=>∃st c,At w0 h0 c0 D w st a c∧GC (mj tt E L h0.length x) f n st (fun e st=>K e (g st))=some r) (fun a w => ?_) (fun n a w => ?_) ⟨st,c,at_,hk⟩
   ·rintro ⟨st,c,_,hk⟩
    cases hk
   ·rintro ⟨st,c,at_,hk⟩
    simp only[GC]at hk
    refine pc T hm hE hlen x hx _ _ st a w c at_ hk fun e wW a' w' c' at' uQ => ?_
    cases e with
    | normal =>
     obtain ⟨c2,at2⟩:=hf w' wW a' c' at'
     exact ⟨f wW,c2,at2,uQ⟩
    | exit i=>obtain ⟨c2,at2⟩:=hg w' wW a' c' at'; exact he (.exit i) _ a' w' c2 at2 uQ
    | goto l=>obtain ⟨c2,at2⟩:=hg w' wW a' c' at'; exact he (.goto l) _ a' w' c2 at2 uQ
    | ret=>obtain ⟨c2,at2⟩:=hg w' wW a' c' at'; exact he .ret _ a' w' c2 at2 uQ
  simp only[mj]at hk
  split at hk
  ·rename_i hint ls hL
   have hnorm:∀w st a c,At w0 h0 c0 D w st a c→∃c',At w0 h0 c0 D w (norm h0.length hint st) a c':=fun w st a c at_=>by
    obtain ⟨c',s',x'⟩:=norm_sound at_.jz at_.ext hlen hint
    exact ⟨c',s',x',at_.defers⟩
   have htrim:∀w st a c,At w0 h0 c0 D w st a c→∃c',At w0 h0 c0 D w (trim h0.length hint st) a c':=fun w st a c at_=>by
    obtain ⟨c',s',x'⟩:=trim_sound at_.jz at_.ext hlen hint
    exact ⟨c',s',x',at_.defers⟩
   obtain ⟨n,hn⟩:=hl x (by simp[aT]) hint ls hL _ _ _ hk
   obtain ⟨c',at'⟩:=hnorm w st a c at_
   exact main _ _ hnorm htrim n _ a w c' at' hn
  ·rw[ZL]at hk
   exact main id id (fun w st a c h=>⟨c,h⟩) (fun w st a c h=>⟨c,h⟩) 70 st a w c at_ hk
 | .exit id,_,Q,K,st,a,w,c,at_,hk,he=>wp_exit (he (.exit id) st a w c at_ hk)
 | .ret,_,Q,K,st,a,w,c,at_,hk,he=>wp_ret (he .ret st a w c at_ hk)
 | .label _,_,_,_,_,_,_,_,_,hk,_=>by simp[mj]at hk
 | .goto _,_,_,_,_,_,_,_,_,hk,_=>by simp[mj]at hk
 | .scope _,_,_,_,_,_,_,_,_,hk,_=>by simp[mj]at hk
 | .refuse _,_,_,_,_,_,_,_,_,hk,_=>by simp[mj]at hk
end
theorem Oa (T:A6 P tt) {st:St} {a:Act} (jz:N6 w c st a):∀(rs:List ResultVar) {k:List V→Option R} {r:R},YY tt st rs k=some r →
  ∃vs ds,k vs=some r∧cT w st.hp c vs ds∧ds.length=rs.length∧(rs.mapM (m:=Sem) fun | .tmp t=>pure (a.tmps.getD t undef) | .cell b t=>do loadVar t (←asAddr (a.tmps.getD b undef))).run P w = .ok ds w
 | [],k,r,hk=>⟨[], [],hk, .nil,rfl,by simp⟩
 | .tmp t::rs,k,r,hk=>by
  simp only[YY]at hk
  obtain ⟨vs,ds,h1,h2,h3,h4⟩:=Oa T jz rs hk
  refine ⟨_,a.tmps.getD t undef::ds,h1, .cons ?_ h2,by simp[h3],?_⟩
  ·have:=jz.fr.getD t undef
   simpa [List.getD,Array.getD_eq_getD_getElem?]using this
  ·simp only[List.mapM_cons,Sem.run_bind,Sem.run_pure,Result.andThen_ok,h4]
 | .cell b t::rs,k,r,hk=>by
  simp only[YY]at hk
  split at hk <;> try (first|cases hk)
  rename_i i o hp
  split at hk <;> try (first|cases hk)
  rename_i cs Dr
  have hl:=TH (P:=P) T jz.wf (t:=t) (a := .ptr i o) (a':=a.tmps.getD b undef) (lim:=none) (k:=fun v=>YY tt st rs fun vs=>k (v::vs)) (r:=r) (by
    have:=jz.fr.getD b undef
    rw[hp]at this
    simpa [List.getD,Array.getD_eq_getD_getElem?]using this) (by simp only[JS,if_true,Dr]; exact hk)
  obtain ⟨v,v',g1,g2,g3⟩:=hl
  obtain ⟨vs,ds,h1,h2,h3,h4⟩:=Oa T jz rs g3
  refine ⟨_,v'::ds,h1, .cons g2 h2,by simp[h3],?_⟩
  have hb:(do loadVar t (←asAddr (a.tmps.getD b undef)):Sem Value).run P w = .ok v' w:=by
   have rb:=jz.fr.getD b undef
   rw[hp]at rb
   have e:a.tmps.toList.getD b undef=a.tmps.getD b undef:=by simp[List.getD,Array.getD_eq_getD_getElem?]
   rw[e]at rb
   generalize a.tmps.getD b undef=q at rb g1
   cases rb with
   | ptr hu hv =>
    obtain ⟨b',rfl,_⟩:=hv
    simpa [Instr.loadAt,Instr.sureAddr,asAddr]using g1
  simp only[List.mapM_cons,Sem.run_bind,hb,Sem.run_pure,Result.andThen_ok,h4]
theorem VJ {w0:World} {h0:aO} {c0:lj} {ts:List Nat} {zC:Bool} {vs:List V} {ds:List Value} (wf:WF w h c) (r:cT w h c vs ds) (x:Ext w0 h0 c0 w h c) (hm:h0.length≤200) (hts:ts.length=ds.length) {k:V→aO→Option R} {q:R}
  (hk:SZ tt ts h0.length zC vs h k=some q):∃v h' c',WF w h' c'∧Ext w0 h0 c0 w h' c'∧eG w h' c' v (if h:ds.length=1 then ds[0]else .tuple ds.toArray)∧k v h'=some q:=by
 unfold SZ at hk
 have main:∀(ws:List V) (h1:aO),WF w h1 c→cT w h1 c ws ds→Ext w0 h0 c0 w h1 c →
   k (match V.Cq (Cl (reach h1 256 (List.range h0.length++V.wm ws) [])) ws with | [v]=>v|l => .tuple l) (h1.pick (reach h1 256 (List.range h0.length++V.wm ws) []))=some q →
   ∃v h' c',WF w h' c'∧Ext w0 h0 c0 w h' c'∧eG w h' c' v (if h:ds.length=1 then ds[0]else .tuple ds.toArray)∧k v h'=some q:=by
  intro ws h1 wf1 r1 x1 hk
  obtain ⟨g1,g2⟩:=RC h1 (m:=h0.length) (n:=256) (by omega) (V.wm ws)
  have rr:=Nf (ord:=reach h1 256 (List.range h0.length++V.wm ws) []) r1
  refine ⟨_,_,_,O9 wf1 g1,ZI x1 g2,?_,hk⟩
  have hlen:=rr.1
  generalize V.Cq (Cl (reach h1 256 (List.range h0.length++V.wm ws) [])) ws=us at rr hlen
  split
  ·rename_i v
   have h1:ds.length=1:=by simpa using hlen.symm
   rw[dif_pos h1]
   exact rr.2 0 v _ rfl (List.getElem?_eq_getElem _)
  ·rename_i ju
   have h1:¬ds.length=1:=fun e=>by
    rw[e]at hlen
    match us,hlen with
    | [v],_=>exact ju v rfl
   rw[dif_neg h1]
   exact .tuple (by simpa using hlen) fun j v d hv hd=>rr.2 j v d hv (by simpa using hd)
 cases zC with
 | true=>exact main vs h wf r x hk
 | false =>
  simp only[Bool.false_eq_true,if_false]at hk
  exact main _ _ (GI _ _ wf) (Ue ts _ ds hts (Wx wf r)) (x.trans (EZ _ _)) hk
theorem funK_sound (T:A6 P tt) (hm:P.follows .mixedOrders=true) {E:Env R} (hE:EOk P E) {L:Nat→Option (Hint × dC R)} {g:Nat} {fn:Func} {code:Code} {zC:Bool} (hf:P.funcs[g]? = some fn) (hb:fn.body=some code)
  (hn:(fn.name == "runtime.NumGoroutine")=false) (hr:fn.results.size=fn.resultTypes.size) (m:Nat) (hl:∀a∈aT code,jn tt E L m a):Spec.OkAt P g m (funK tt E L zC fn code):=by
 refine Spec.OkAt.of_body hf hn (by rw[hb]; rfl) fun vs h k r hml hk w c args wf ra => ?_
 subst hml
 refine calls_of_wp hf hb ?_
 unfold funK at hk
 split at hk
 ·cases hk
 rename_i h200
 have hlen:h.length≤200:=by omega
 have hfr:cT w h c (vs++List.replicate (fn.ntmps - vs.length) .undef) (args++Array.replicate (fn.ntmps - args.size) undef).toList:=by
  have e:vs.length=args.size:=by simpa using ra.1
  rw[e]
  simpa using ra.append (cT.R1 (fn.ntmps - args.size) undef)
 refine pc T hm hE (w0:=w) (h0:=h) (c0:=c) (D := []) hlen code hl _ _ _ _ w c ⟨⟨wf,hfr⟩, .refl _ _ _,rfl⟩ hk fun e st a w' c' at' uQ => ?_
 have fin:YY tt st fn.results.toList (fun vs=>SZ tt fn.resultTypes.toList h.length zC vs st.hp k)=some r →
   a.defers = []∧∃v,(results fn a.tmps).run P w' = .ok v w'∧∃d,Ending.returned v=Ending.returned d∧∃u h' c',WF w' h' c'∧Ext w h c w' h' c'∧eG w' h' c' u d∧k u h'=some r:=by
  intro hk
  obtain ⟨vs,ds,g1,g2,g3,g4⟩:=Oa T at'.jz _ hk
  obtain ⟨u,h',c2,k1,k2,k3,k4⟩:=VJ at'.jz.wf g2 at'.ext hlen (by simp[g3,hr]) g1
  refine ⟨at'.defers,_,?_,_,rfl,u,h',c2,k1,k2,k3,k4⟩
  unfold results
  simp only[Sem.run_bind,Array.mapM_eq_mapM_toList,map_eq_pure_bind,Sem.run_pure]
  refine (congrArg (fun z:Result (List Value)=>(z.andThen fun a w'=>Result.ok a.toArray w').andThen fun a w'=>Result.ok (if h:a.size=1 then a[0]else Value.tuple a) w') g4).trans ?_
  simp
 cases e with
 | normal=>exact fin uQ
 | ret=>exact fin uQ
 | exit i=>cases uQ
 | goto l=>cases uQ
end
inductive fT where
 | undef|fM|cV|bg|qU|eg|iface
 | NU (t:Nat) (k:IntKind) (n:Int)
 | int (k:IntKind)|bool|str
 | ptr (i o:Nat)
 | sl (T:Ty)|Vt (T:Ty) (i:Nat)
 | row (i:Nat)
 | map (i:Nat)
 | fn (f:Nat)
 deriving DecidableEq
def fT.den:fT→Type
 | .int _=>Int
 | .bool=>Bool
 | .str=>ah
 | .sl T=>List T.den
 | .Vt T _=>List T.den
 | .row _=>Nat
 | _=>Unit
def fT.enc:(p:fT)→p.den→V
 | .undef,_ => .undef
 | .fM,_ => .fM
 | .cV,_ => .cV
 | .bg,_ => .bg
 | .qU,_ => .qU
 | .eg,_ => .eg
 | .iface,_ => .iface
 | .NU t k n,_ => .NU t k n
 | .int k,(n:Int) => .int k n
 | .bool,(b:Bool) => .bool b
 | .str,(s:ah) => .str s
 | .ptr i o,_ => .ptr i o
 | .sl T,(l:List T.den) => .sl T l .no
 | .Vt T i,(l:List T.den) => .sl T l (.own i)
 | .row i,(n:Nat) => .row i n
 | .map i,_ => .map i
 | .fn f,_ => .func f [] []
def decIx (k:IntKind):V→Option Int | .int k' n=>if k'=k then some n else none|_=>none
def decBx:V→Option Bool | .bool b=>some b|_=>none
def decSx:V→Option ah | .str s=>some s|_=>none
def decLx (T:Ty):V→Option (List T.den) | .sl T' l .no=>if h:T'=T then some (h▸l)else none|_=>none
def decOx (T:Ty) (i:Nat):V→Option (List T.den) | .sl T' l (.own j)=>if h:T'=T then (if j=i then some (h▸l)else none)else none|_=>none
def decRx (i:Nat):V→Option Nat | .row j n=>if j=i then some n else none|_=>none
def decPx (i o:Nat):V→Option Unit | .ptr j q=>if j=i∧q=o then some ()else none|_=>none
def decMx (i:Nat):V→Option Unit | .map j=>if j=i then some ()else none|_=>none
def decFx (f:Nat):V→Option Unit | .func g [] []=>if g=f then some ()else none|_=>none
def decUx:V→Option Unit | .undef=>some ()|_=>none
def decNp:V→Option Unit | .fM=>some ()|_=>none
def decNs:V→Option Unit | .cV=>some ()|_=>none
def decNf:V→Option Unit | .bg=>some ()|_=>none
def decNm:V→Option Unit | .qU=>some ()|_=>none
def decNi:V→Option Unit | .eg=>some ()|_=>none
def decIf:V→Option Unit | .iface=>some ()|_=>none
def decIi (t:Nat) (k:IntKind) (n:Int):V→Option Unit | .NU t' k' n'=>if t'=t∧k'=k∧n'=n then some ()else none|_=>none
theorem decIx_eq {k:IntKind} {v:V} {x:Int} (h:decIx k v=some x):v = .int k x:=by
 unfold decIx at h
 split at h
 ·split at h
  ·rename_i e; subst e; cases h; rfl
  ·cases h
 ·cases h
theorem decBx_eq {v:V} {x:Bool} (h:decBx v=some x):v = .bool x:=by unfold decBx at h; split at h <;> first|(cases h; rfl)|cases h
theorem decSx_eq {v:V} {x:ah} (h:decSx v=some x):v = .str x:=by unfold decSx at h; split at h <;> first|(cases h; rfl)|cases h
theorem decLx_eq {T:Ty} {v:V} {x:List T.den} (h:decLx T v=some x):v = .sl T x .no:=by
 unfold decLx at h
 split at h
 ·split at h
  ·rename_i e; subst e; cases h; rfl
  ·cases h
 ·cases h
theorem decOx_eq {T:Ty} {i:Nat} {v:V} {x:List T.den} (h:decOx T i v=some x):v = .sl T x (.own i):=by
 unfold decOx at h
 split at h
 ·split at h
  ·rename_i e
   subst e
   split at h
   ·rename_i e; subst e; cases h; rfl
   ·cases h
  ·cases h
 ·cases h
theorem decRx_eq {i:Nat} {v:V} {x:Nat} (h:decRx i v=some x):v = .row i x:=by
 unfold decRx at h
 split at h
 ·split at h
  ·rename_i e; subst e; cases h; rfl
  ·cases h
 ·cases h
theorem decPx_eq {i o:Nat} {v:V} {x:Unit} (h:decPx i o v=some x):v = .ptr i o:=by
 unfold decPx at h
 split at h
 ·split at h
  ·rename_i e; obtain ⟨rfl,rfl⟩:=e; rfl
  ·cases h
 ·cases h
theorem decMx_eq {i:Nat} {v:V} {x:Unit} (h:decMx i v=some x):v = .map i:=by
 unfold decMx at h
 split at h
 ·split at h
  ·rename_i e; subst e; rfl
  ·cases h
 ·cases h
theorem decFx_eq {f:Nat} {v:V} {x:Unit} (h:decFx f v=some x):v = .func f [] []:=by
 unfold decFx at h
 split at h
 ·split at h
  ·rename_i e; subst e; rfl
  ·cases h
 ·cases h
theorem decUx_eq {v:V} {x:Unit} (h:decUx v=some x):v = .undef:=by unfold decUx at h; split at h <;> first|rfl|cases h
theorem decNp_eq {v:V} {x:Unit} (h:decNp v=some x):v = .fM:=by unfold decNp at h; split at h <;> first|rfl|cases h
theorem decNs_eq {v:V} {x:Unit} (h:decNs v=some x):v = .cV:=by unfold decNs at h; split at h <;> first|rfl|cases h
theorem decNf_eq {v:V} {x:Unit} (h:decNf v=some x):v = .bg:=by unfold decNf at h; split at h <;> first|rfl|cases h
theorem decNm_eq {v:V} {x:Unit} (h:decNm v=some x):v = .qU:=by unfold decNm at h; split at h <;> first|rfl|cases h
theorem decIf_eq {v:V} {x:Unit} (h:decIf v=some x):v = .iface:=by unfold decIf at h; split at h <;> first|rfl|cases h
theorem decIi_eq {t:Nat} {k:IntKind} {n:Int} {v:V} {x:Unit} (h:decIi t k n v=some x):v = .NU t k n:=by
 unfold decIi at h
 split at h
 ·split at h
  ·rename_i e; obtain ⟨rfl,rfl,rfl⟩:=e; rfl
  ·cases h
 ·cases h
theorem decNi_eq {v:V} {x:Unit} (h:decNi v=some x):v = .eg:=by unfold decNi at h; split at h <;> first|rfl|cases h
def fT.dec:(p:fT)→V→Option p.den
 | .undef=>decUx
 | .fM=>decNp
 | .cV=>decNs
 | .bg=>decNf
 | .qU=>decNm
 | .eg=>decNi
 | .iface=>decIf
 | .NU t k n=>decIi t k n
 | .int k=>decIx k
 | .bool=>decBx
 | .str=>decSx
 | .ptr i o=>decPx i o
 | .sl T=>decLx T
 | .Vt T i=>decOx T i
 | .row i=>decRx i
 | .map i=>decMx i
 | .fn f=>decFx f
theorem fT.Ob (p:fT) {v:V} {x:p.den} (h:p.dec v=some x):v=p.enc x:=by
 cases p
 ·exact decUx_eq h
 ·exact decNp_eq h
 ·exact decNs_eq h
 ·exact decNf_eq h
 ·exact decNm_eq h
 ·exact decNi_eq h
 ·exact decIf_eq h
 ·exact decIi_eq h
 ·exact decIx_eq h
 ·exact decBx_eq h
 ·exact decSx_eq h
 ·exact decPx_eq h
 ·exact decLx_eq h
 ·exact decOx_eq h
 ·exact decRx_eq h
 ·exact decMx_eq h
 ·exact decFx_eq h
def fT.au:List fT→Type
 | []=>Unit
 | p::ps=>p.den × fT.au ps
def fT.eD:(ps:List fT)→fT.au ps→List V
 | [],_ => []
 | p::ps,(x:p.den × fT.au ps)=>p.enc x.1::fT.eD ps x.2
def both {α β:Type}:Option α→Option β→Option (α × β)
 | some x,some y=>some (x,y)
 | _,_=>none
theorem S5 {α β:Type} {a:Option α} {b:Option β} {z:α × β} (h:both a b=some z):a=some z.1∧b=some z.2:=by
 cases a <;> cases b <;> cases h
 exact ⟨rfl,rfl⟩
def fT.IN:(ps:List fT)→List V→Option (fT.au ps)
 | [], []=>some ()
 | [],_::_=>none
 | _::_, []=>none
 | p::ps,v::vs=>both (p.dec v) (fT.IN ps vs)
theorem fT.wZ:∀(ps:List fT) {vs:List V} {x:fT.au ps},fT.IN ps vs=some x→vs=fT.eD ps x
 | [], [],_,_=>rfl
 | [],_::_,_,h=>by cases h
 | _::_, [],_,h=>by cases h
 | p::ps,v::vs,x,h=>by
  obtain ⟨h1,h2⟩:=S5 (a:=p.dec v) (b:=fT.IN ps vs) h
  show v::vs=p.enc x.1::fT.eD ps x.2
  rw[←fT.Ob p h1,←fT.wZ ps h2]
inductive bE where
 | leaf (l:fT)
 | agg (ps:List fT)
 | func (f:Nat) (a b:List fT)
def bE.den:bE→Type
 | .leaf l=>l.den
 | .agg ps=>fT.au ps
 | .func _ a b=>fT.au a × fT.au b
def bE.enc:(p:bE)→p.den→V
 | .leaf l,x=>l.enc x
 | .agg ps,x => .agg (fT.eD ps x)
 | .func f a b,(x:fT.au a × fT.au b) => .func f (fT.eD a x.1) (fT.eD b x.2)
def decAx (ps:List fT):V→Option (fT.au ps) | .agg cs=>fT.IN ps cs|_=>none
def decFnx (f:Nat) (a b:List fT):V→Option (fT.au a × fT.au b) | .func g x y=>if g=f then both (fT.IN a x) (fT.IN b y)else none|_=>none
def bE.dec:(p:bE)→V→Option p.den
 | .leaf l=>l.dec
 | .agg ps=>decAx ps
 | .func f a b=>decFnx f a b
theorem bE.Ob (p:bE) {v:V} {x:p.den} (h:p.dec v=some x):v=p.enc x:=by
 cases p with
 | leaf l=>exact fT.Ob l h
 | agg ps =>
  replace h:decAx ps v=some x:=h
  unfold decAx at h
  split at h
  ·rename_i cs
   show V.agg cs = .agg (fT.eD ps x)
   rw[←fT.wZ ps h]
  ·cases h
 | func f a b =>
  replace h:decFnx f a b v=some x:=h
  unfold decFnx at h
  split at h
  ·split at h
   ·rename_i e
    subst e
    obtain ⟨h1,h2⟩:=S5 h
    rename_i g p q
    show V.func g p q = .func g (fT.eD a x.1) (fT.eD b x.2)
    rw[←fT.wZ a h1,←fT.wZ b h2]
   ·cases h
  ·cases h
def bE.au:List bE→Type
 | []=>Unit
 | p::ps=>p.den × bE.au ps
def bE.eD:(ps:List bE)→bE.au ps→List V
 | [],_ => []
 | p::ps,(x:p.den × bE.au ps)=>p.enc x.1::bE.eD ps x.2
def bE.IN:(ps:List bE)→List V→Option (bE.au ps)
 | [], []=>some ()
 | [],_::_=>none
 | _::_, []=>none
 | p::ps,v::vs=>both (p.dec v) (bE.IN ps vs)
theorem bE.wZ:∀(ps:List bE) {vs:List V} {x:bE.au ps},bE.IN ps vs=some x→vs=bE.eD ps x
 | [], [],_,_=>rfl
 | [],_::_,_,h=>by cases h
 | _::_, [],_,h=>by cases h
 | p::ps,v::vs,x,h=>by
  obtain ⟨h1,h2⟩:=S5 (a:=p.dec v) (b:=bE.IN ps vs) h
  show v::vs=p.enc x.1::bE.eD ps x.2
  rw[←bE.Ob p h1,←bE.wZ ps h2]
inductive aA where
 | free|dead|tok|iter
 | cells (ps:List fT)
 | row (T:Ty)
 | oG (p:fT)
 | zE (K T:Ty)
def aA.den:aA→Type
 | .cells ps=>fT.au ps
 | .row T=>List T.den
 | .oG p=>p.den
 | .zE K T=>List (K.den × T.den)
 | .iter=>ah × Nat
 | _=>Unit
def aA.enc:(p:aA)→p.den→cj
 | .free,_ => .free
 | .dead,_ => .dead
 | .tok,_ => .tok
 | .iter,x => .iter (Prod.fst (α:=ah) (β:=Nat) x) (Prod.snd (α:=ah) (β:=Nat) x)
 | .cells ps,x => .cells (fT.eD ps x)
 | .row T,x => .row T x
 | .oG p,x => .oG (p.enc x)
 | .zE K T,x => .zE K T x
def decBl (p:fT):cj→Option p.den | .oG v=>p.dec v|_=>none
def decCx (ps:List fT):cj→Option (fT.au ps) | .cells cs=>fT.IN ps cs|_=>none
def decWx (T:Ty):cj→Option (List T.den) | .row T' l=>if h:T'=T then some (h▸l)else none|_=>none
def decAm (K T:Ty):cj→Option (List (K.den × T.den)) | .zE K' T' l=>if h:K'=K∧T'=T then some (h.1▸h.2▸l)else none|_=>none
def decHf:cj→Option Unit | .free=>some ()|_=>none
def decHd:cj→Option Unit | .dead=>some ()|_=>none
def decHi:cj→Option (ah × Nat) | .iter s p=>some (s,p)|_=>none
def decHt:cj→Option Unit | .tok=>some ()|_=>none
def aA.dec:(p:aA)→cj→Option p.den
 | .free=>decHf
 | .dead=>decHd
 | .tok=>decHt
 | .iter=>decHi
 | .cells ps=>decCx ps
 | .row T=>decWx T
 | .oG p=>decBl p
 | .zE K T=>decAm K T
theorem aA.Ob (p:aA) {o:cj} {x:p.den} (h:p.dec o=some x):o=p.enc x:=by
 cases p with
 | free=>replace h:decHf o=some x:=h; unfold decHf at h; split at h <;> first|rfl|cases h
 | dead=>replace h:decHd o=some x:=h; unfold decHd at h; split at h <;> first|rfl|cases h
 | tok=>replace h:decHt o=some x:=h; unfold decHt at h; split at h <;> first|rfl|cases h
 | iter=>replace h:decHi o=some x:=h; unfold decHi at h; split at h <;> first|(cases h; rfl)|cases h
 | cells ps =>
  replace h:decCx ps o=some x:=h
  unfold decCx at h
  split at h
  ·rename_i cs
   show cj.cells cs = .cells (fT.eD ps x)
   rw[←fT.wZ ps h]
  ·cases h
 | oG p =>
  replace h:decBl p o=some x:=h
  unfold decBl at h
  split at h
  ·rename_i v
   show cj.oG v = .oG (p.enc x)
   rw[←fT.Ob p h]
  ·cases h
 | zE K T =>
  replace h:decAm K T o=some x:=h
  unfold decAm at h
  split at h
  ·split at h
   ·rename_i e; obtain ⟨rfl,rfl⟩:=e; cases h; rfl
   ·cases h
  ·cases h
 | row T =>
  replace h:decWx T o=some x:=h
  unfold decWx at h
  split at h
  ·split at h
   ·rename_i e; subst e; cases h; rfl
   ·cases h
  ·cases h
def aA.au:List aA→Type
 | []=>Unit
 | p::ps=>p.den × aA.au ps
def aA.eD:(ps:List aA)→aA.au ps→aO
 | [],_ => []
 | p::ps,(x:p.den × aA.au ps)=>p.enc x.1::aA.eD ps x.2
def aA.IN:(ps:List aA)→List cj→Option (aA.au ps)
 | [], []=>some ()
 | [],_::_=>none
 | _::_, []=>none
 | p::ps,v::vs=>both (p.dec v) (aA.IN ps vs)
theorem aA.wZ:∀(ps:List aA) {vs:List cj} {x:aA.au ps},aA.IN ps vs=some x→vs=aA.eD ps x
 | [], [],_,_=>rfl
 | [],_::_,_,h=>by cases h
 | _::_, [],_,h=>by cases h
 | p::ps,v::vs,x,h=>by
  obtain ⟨h1,h2⟩:=S5 (a:=p.dec v) (b:=aA.IN ps vs) h
  show v::vs=p.enc x.1::aA.eD ps x.2
  rw[←aA.Ob p h1,←aA.wZ ps h2]
theorem aA.ZM:∀(ps:List aA) (x:aA.au ps),(aA.eD ps x).length=ps.length
 | [],_=>rfl
 | p::ps,x=>by
  show (p.enc x.1::aA.eD ps x.2).length=_
  simp[aA.ZM ps]
section
variable {R:Type} {P:Program} {tt:eF}
def bm (ps:List bE) (hs:List aA) (run:bE.au ps→aA.au hs→(V→aO→Option R)→Option R) (other:Spec R):Spec R:=fun args h k =>
 match bE.IN ps args,aA.IN hs h with
 | some x,some y=>run x y k
 | _,_=>other args h k
def bb:Spec R:=fun _ _ _=>none
theorem aM (g:Nat):Spec.Ok P g (bb:Spec R):=by intro vs h k r hk; cases hk
theorem specBy_ok {g:Nat} {ps:List bE} {hs:List aA} {run:bE.au ps→aA.au hs→(V→aO→Option R)→Option R} {other own:Spec R} (ho:Spec.Ok P g other) (hw:Spec.OkAt P g hs.length own)
  (hr:∀x y k,own (bE.eD ps x) (aA.eD hs y) k=run x y k):Spec.Ok P g (bm ps hs run other):=by
 intro vs h k r hk
 unfold bm at hk
 split at hk
 ·rename_i x y h1 h2
  rw[bE.wZ ps h1,aA.wZ hs h2]
  rw[←hr]at hk
  exact hw _ _ _ _ (aA.ZM hs y) hk
 ·exact ho _ _ _ _ hk
def dx (ps:List bE) (hs:List aA) (run:bE.au ps→aA.au hs→(Ex→St→Option R)→Option R) (other:dC R):dC R:=fun st K =>
 match bE.IN ps st.fr,aA.IN hs st.hp with
 | some x,some y=>run x y K
 | _,_=>other st K
def j7:dC R:=fun _ _=>none
def jt (tt:eF) (E:Env R) (L:Nat→Option (Hint × dC R)) (m:Nat) (a:Code) (hint:Hint) (ls:dC R):Prop :=
 ∀st (K:Ex→St→Option R) r,ls st K=some r→∃n,GC (mj tt E L m a) (norm m hint) n st (fun e st=>K e (trim m hint st))=some r
theorem eN {E:Env R} {L:Nat→Option (Hint × dC R)} {m:Nat} {a:Code} {hint:Hint}:jt tt E L m a hint j7:=by intro st K r hk; cases hk
theorem loopBy_ok {E:Env R} {L:Nat→Option (Hint × dC R)} {m:Nat} {a:Code} {hint:Hint} {ps:List bE} {hs:List aA} {run:bE.au ps→aA.au hs→(Ex→St→Option R)→Option R} {other:dC R} (ho:jt tt E L m a hint other)
  (hr:∀x y K,∃n,GC (mj tt E L m a) (norm m hint) n ⟨bE.eD ps x,aA.eD hs y⟩ (fun e st=>K e (trim m hint st))=run x y K):jt tt E L m a hint (dx ps hs run other):=by
 intro st K r hk
 obtain ⟨fr,hp⟩:=st
 unfold dx at hk
 simp only at hk
 split at hk
 ·rename_i x y h1 h2
  rw[bE.wZ ps h1,aA.wZ hs h2]
  obtain ⟨n,hn⟩:=hr x y K
  exact ⟨n,by rw[hn]; exact hk⟩
 ·exact ho _ _ _ hk
def aI (f:Func):Code:=f.body.getD .skip
theorem gR {E:Env R} {L:Nat→Option (Hint × dC R)} {m:Nat} {l:List Code} (n:Nat) (hn:l.length=n) (h:∀i,i<n→jn tt E L m (l.getD i .skip)):∀a∈l,jn tt E L m a:=by
 intro a ha
 obtain ⟨i,hi,rfl⟩:=List.mem_iff_getElem.1 ha
 have:=h i (by omega)
 simpa [List.getD,List.getElem?_eq_getElem hi]using this
theorem cW {E:Env R} {L:Nat→Option (Hint × dC R)} {m:Nat} {a:Code} {hint:Hint} {ls:dC R} (h:L (keyOf a)=some (hint,ls)) (hs:jt tt E L m a hint ls):jn tt E L m a:=by
 intro hint' ls' hl
 rw[h]at hl
 cases hl
 exact hs
def roundOf (tt:eF) (E:Env R) (L:Nat→Option (Hint × dC R)) (m:Nat) (a:Code) (hint:Hint) (st:St) (dq:St→Option R) (K:Ex→St→Option R):Option R :=
 mj tt E L m a st fun e wW=>match e with | .normal=>dq (norm m hint wW)|e=>K e (trim m hint wW)
theorem loopN_succ {E:Env R} {L:Nat→Option (Hint × dC R)} {m:Nat} {a:Code} {hint:Hint} {n:Nat} {st:St} {K:Ex→St→Option R} :
  GC (mj tt E L m a) (norm m hint) (n+1) st (fun e st=>K e (trim m hint st))=roundOf tt E L m a hint st (fun st=>GC (mj tt E L m a) (norm m hint) n st (fun e st=>K e (trim m hint st))) K:=by
 unfold roundOf
 simp only[GC]
 congr 1
end
section
variable {P:Program} {tt:eF} {w:World} {h:aO} {c:lj}
theorem ZN:∀l:List Value,cT w h c (l.map ofConst) l
 | [] => .nil
 | v::l => .cons (Rt v) (ZN l)
def zeroOf (i:TypeInfo):Option (Nat × List V × Bool):=i.zero.map fun z=>(z.cells.size,z.cells.toList.map ofConst,z.oneCell')
def aL (P:Program) (tt:eF) (t:Nat):Prop :=
 ∃i,P.info? t=some i∧i.size=(tt.at t).size∧i.bytes=(tt.at t).bytes∧zeroOf i=some ((tt.at t).size,(tt.at t).zero, !tt.isAgg t)
theorem aL.spec {t:Nat} (h:aL P tt t):∃i z,P.info? t=some i∧i.size=(tt.at t).size∧i.bytes=(tt.at t).bytes∧i.zero=some z∧z.cells.size=i.size ∧
  ∀(w:World) (h:aO) (c:lj),cT w h c (tt.at t).zero z.cells.toList:=by
 obtain ⟨i,h1,h2,h3,h4⟩:=h
 unfold zeroOf at h4
 cases hz:i.zero with
 | none=>rw[hz]at h4; cases h4
 | some z =>
  rw[hz]at h4
  simp only[Option.map_some,Option.some.injEq,Prod.mk.injEq]at h4
  refine ⟨i,z,h1,h2,h3,hz,by rw[h4.1,h2],fun w h c => ?_⟩
  rw[←h4.2.1]
  exact ZN _
theorem aL.one {t:Nat} (h:aL P tt t):∀i z,P.info? t=some i→i.zero=some z→z.oneCell' = !tt.isAgg t:=by
 intro i z hi hz
 obtain ⟨j,h1,h2,h3,h4⟩:=h
 rw[hi]at h1; cases h1
 unfold zeroOf at h4
 rw[hz]at h4
 simp only[Option.map_some,Option.some.injEq,Prod.mk.injEq]at h4
 exact h4.2.2
theorem u8s_of (h:(List.range tt.length).all (fun e=>match (tt.at e).ty with|some (.int .u8)=>Nat.beq e qT.u8|_=>true)=true):∀e,(tt.at e).ty=some (.int .u8)→e=qT.u8:=by
 intro e he
 by_cases hl:e<tt.length
 ·have:=List.all_eq_true.1 h e (by simpa using hl)
  rw[he]at this
  exact Nat.eq_of_beq_eq_true this
 ·have:tt.at e=TI.none:=by unfold eF.at; simp[List.getD,List.getElem?_eq_none (Nat.le_of_not_lt hl)]
  rw[this]at he; cases he
def bldOk (tt:eF) (t:Nat):Bool:=Nat.beq t qT.oG&&tt.ok t&&(match (tt.at t).zero with | [.fM, .cV]=>true|_=>false)
theorem blds_of (h:(List.range tt.length).all (fun t=>bif (tt.at t).oG then bldOk tt t else true)=true):∀t,(tt.at t).oG=true→t=qT.oG∧(tt.at t).zero = [.fM, .cV]∧tt.ok t=true:=by
 intro t ht
 by_cases hl:t<tt.length
 ·have:=List.all_eq_true.1 h t (by simpa using hl)
  rw[ht]at this
  simp only[cond_true,bldOk,Bool.and_eq_true]at this
  obtain ⟨⟨h1,h2⟩,h3⟩:=this
  refine ⟨Nat.eq_of_beq_eq_true h1,?_,h2⟩
  split at h3
  ·assumption
  ·cases h3
 ·have:tt.at t=TI.none:=by unfold eF.at; simp[List.getD,List.getElem?_eq_none (Nat.le_of_not_lt hl)]
  rw[this]at ht; cases ht
theorem XV {n t:Nat} (hn:tt.length=n) (ht:n≤t):tt.at t=TI.none:=by
 unfold eF.at
 rw[List.getD,List.getElem?_eq_none (by omega)]
 rfl
theorem und_past {n t:Nat} (hn:tt.length=n) (ht:n≤t):(tt.at t).d.Is P t:=by rw[XV hn ht]; trivial
theorem ok_past {n t:Nat} (hn:tt.length=n) (ht:n≤t) (h:tt.ok t=true):False:=by
 unfold eF.ok at h
 rw[XV hn ht]at h
 cases h
theorem eq_past {n t:Nat} (hn:tt.length=n) (ht:n≤t) (h:(tt.at t).eq=true):False:=by
 rw[XV hn ht]at h
 cases h
end
section
variable {P:Program} {tt:eF} {w:World} {h:aO} {c:lj}
def Scal (P:Program) (ty:TypeId) (z:V):Prop :=
  (∃k n,z = .int k n∧P.underlying ty=some (.int k))∨(∃s,z = .str s∧P.underlying ty=some .string)∨(∃b,z = .bool b∧P.underlying ty=some .bool)
theorem Mj {ty:TypeId} {z:V} (s:Scal P ty z) {xs:Array Value} {j:Nat} {x:Value} (hx:xs[j]? = some x):(part ty xs j).run P w = .ok x w:=by
  rcases s with ⟨k,n,_,hu⟩|⟨n,_,hu⟩|⟨n,_,hu⟩ <;> simp[part,Go.isAgg,run_underlying hu,hx]
theorem eqF (d:Nat) (xs ys:Array Value):∀(fs:List Field) (zs cs ds:List V) (j:Nat) (b:Bool),(∀i f z,fs[i]? = some f→zs[i]? = some z→f.name ≠ "_" ∧ f.offset=j+i∧Scal P f.type z)→fs.length=zs.length →
    gk zs cs=true→gk zs ds=true→oi cs ds=some b→(∀i v,cs[i]? = some v→∃x,xs[j+i]? = some x∧eG w h c v x)→(∀i v,ds[i]? = some v→∃x,ys[j+i]? = some x∧eG w h c v x) →
    (Op.eqFields (d+1) xs ys fs).run P w = .ok b w
  | [],zs,cs,ds,j,b,_,hl,hc,hd,he,_,_=>by
    have:zs = []:=List.eq_nil_of_length_eq_zero hl.symm
    subst this
    cases cs with
    | cons=>cases hc
    | nil =>
      cases ds with
      | cons=>cases hd
      | nil=>cases he; simp[Op.eqFields]
  | f::fs, [],_,_,_,_,_,hl,_,_,_,_,_=>by cases hl
  | f::fs,z::zs,cs,ds,j,b,hf,hl,hc,hd,he,hx,hy=>by
    obtain ⟨h1,h2,h3⟩:=hf 0 f z rfl rfl
    have hf':∀i g y,fs[i]? = some g→zs[i]? = some y→g.name ≠ "_" ∧ g.offset=(j+1)+i∧Scal P g.type y:=fun i g y hg hy=>by
      have:=hf (i+1) g y (by simpa using hg) (by simpa using hy)
      exact ⟨this.1,by omega,this.2.2⟩
    have hl':fs.length=zs.length:=by simpa using hl
    cases cs with
    | nil=>cases z <;> cases hc
    | cons c0 cs =>
      cases ds with
      | nil=>cases z <;> cases hd
      | cons d0 ds =>
        obtain ⟨x,hx0,rx⟩:=hx 0 c0 rfl
        obtain ⟨y,hy0,ry⟩:=hy 0 d0 rfl
        have XT:∀i v,cs[i]? = some v→∃x,xs[(j+1)+i]? = some x∧eG w h c v x:=fun i v hv=>by
          obtain ⟨x,q1,q2⟩:=hx (i+1) v (by simpa using hv)
          exact ⟨x,by rw[←q1]; congr 1; omega,q2⟩
        have hy':∀i v,ds[i]? = some v→∃x,ys[(j+1)+i]? = some x∧eG w h c v x:=fun i v hv=>by
          obtain ⟨x,q1,q2⟩:=hy (i+1) v (by simpa using hv)
          exact ⟨x,by rw[←q1]; congr 1; omega,q2⟩
        have p1:=Mj (w:=w) h3 hx0
        have p2:=Mj (w:=w) h3 hy0
        have fin:∀(r:Bool),(Op.equalIn (d+1) f.type x y).run P w = .ok r w→∀b',oi cs ds=some b'→gk zs cs=true→gk zs ds=true→b=(r&&b')→(Op.eqFields (d+1) xs ys (f::fs)).run P w = .ok b w:=by
          intro r hr b' uR kc kd hb
          subst hb
          have ih:=eqF d xs ys fs zs cs ds (j+1) b' hf' hl' kc kd uR XT hy'
          simp only[Op.eqFields,h1,ne_eq,not_false_eq_true,if_true,Sem.run_bind,h2,Nat.add_zero,p1,p2,Result.andThen_ok,hr]
          simp only[Nat.add_zero]at p1 p2
          simp only[p1,p2,Result.andThen_ok,hr]
          cases r with
          | true=>simpa using ih
          | false=>simp
        rcases h3 with ⟨k,n,rfl,hu⟩|⟨s,rfl,hu⟩|⟨q,rfl,hu⟩
        · cases c0 with
          | int k1 n1 =>
            cases d0 with
            | int k2 n2 =>
              simp only[gk,Bool.and_eq_true,decide_eq_true_eq]at hc hd
              obtain ⟨rfl,hc⟩:=hc
              obtain ⟨rfl,hd⟩:=hd
              cases rx
              cases ry
              simp only[oi,if_true]at he
              split at he
              · rename_i b' uR
                cases he
                exact fin _ (run_equalIn_int w d _ _ _ _ _ hu) b' uR hc hd rfl
              · cases he
            | _=>simp[gk]at hd
          | _=>simp[gk]at hc
        · cases c0 with
          | str s1 =>
            cases d0 with
            | str s2 =>
              simp only[gk]at hc hd
              cases rx
              cases ry
              simp only[oi]at he
              split at he
              · rename_i b' uR
                cases he
                refine fin _ (run_equalIn_string w d _ _ _ hu) b' uR hc hd ?_
                congr 1
                simp only[ByteArray.toList_eq]
              · cases he
            | _=>simp[gk]at hd
          | _=>simp[gk]at hc
        · cases c0 with
          | bool s1 =>
            cases d0 with
            | bool s2 =>
              simp only[gk]at hc hd
              cases rx
              cases ry
              simp only[oi]at he
              split at he
              · rename_i b' uR
                cases he
                exact fin _ (run_equalIn_bool' w d _ _ _ hu) b' uR hc hd rfl
              · cases he
            | _=>simp[gk]at hd
          | _=>simp[gk]at hc
def FlatT (P:Program) (ty:TypeId) (g:List V):Prop :=
  P.underlying ty=some (.struct (P.fieldsOf ty))∧P.stoodInHeld ty=false∧(∃i,P.info? ty=some i)∧P.cellsOf ty=g.length∧(P.fieldsOf ty).toList.length=g.length ∧
    ∀i f z,(P.fieldsOf ty).toList[i]? = some f→g[i]? = some z→f.name ≠ "_" ∧ f.offset=0+i∧Scal P f.type z
def XW (P:Program):List Field→List (List V)→Nat→Prop
  | [], [],_=>True
  | f::fs,g::gs,j=>f.name ≠ "_" ∧ f.offset=j∧((∃z,g = [z]∧Scal P f.type z)∨FlatT P f.type g)∧XW P fs gs (j+g.length)
  | _,_,_=>False
theorem Le:∀ {zs cs:List V},gk zs cs=true→cs.length=zs.length
  | [], [],_=>rfl
  | [],_::_,h=>by cases h
  | z::_, [],h=>by cases z <;> cases h
  | z::zs,c::cs,h=>by
    have:gk zs cs=true:=by
      cases z <;> cases c <;> simp[gk]at h
      · exact h.2
      · exact h
      · exact h
    simp[Le this]
theorem G2:∀ {g zs cs:List V},gk (g++zs) cs=true→gk g (cs.take g.length)=true∧gk zs (cs.drop g.length)=true
  | [],zs,cs,h=>by simpa [gk]using h
  | z::g,zs, [],h=>by cases z <;> cases h
  | z::g,zs,c::cs,h=>by
    have key:gk (g++zs) cs=true:=by
      cases z <;> cases c <;> simp[gk]at h
      · exact h.2
      · exact h
      · exact h
    obtain ⟨h1,h2⟩:=G2 key
    refine ⟨?_,by simpa using h2⟩
    simp only[List.length_cons,List.take_succ_cons]
    cases z <;> cases c <;> simp[gk]at h ⊢
    · exact ⟨h.1,h1⟩
    · exact h1
    · exact h1
theorem Ds:∀(n:Nat) {cs ds:List V} {b:Bool},oi cs ds=some b→n≤cs.length→∃b1 b2,oi (cs.take n) (ds.take n)=some b1∧oi (cs.drop n) (ds.drop n)=some b2∧b=(b1&&b2)
  | 0,cs,ds,b,h,_=>⟨true,b,by simp[oi],by simpa using h,by simp⟩
  | n+1, [],_,_,_,hn=>by simp at hn
  | n+1,c::cs, [],b,h,_=>by cases c <;> cases h
  | n+1,c::cs,d::ds,b,h,hn=>by
    have YH:n≤cs.length:=by simpa using hn
    simp only[List.take_succ_cons,List.drop_succ_cons]
    cases c <;> cases d <;> simp only[oi]at h ⊢ <;> try (first|cases h)
    · split at h
      · rename_i e
        rw[if_pos e]
        split at h
        · rename_i r hr
          cases h
          obtain ⟨b1,b2,h1,h2,h3⟩:=Ds n hr YH
          rw[h1]
          exact ⟨_,b2,rfl,h2,by rw[h3,Bool.and_assoc]⟩
        · cases h
      · cases h
    · split at h
      · rename_i r hr
        cases h
        obtain ⟨b1,b2,h1,h2,h3⟩:=Ds n hr YH
        rw[h1]
        exact ⟨_,b2,rfl,h2,by rw[h3,Bool.and_assoc]⟩
      · cases h
    · split at h
      · rename_i r hr
        cases h
        obtain ⟨b1,b2,h1,h2,h3⟩:=Ds n hr YH
        rw[h1]
        exact ⟨_,b2,rfl,h2,by rw[h3,Bool.and_assoc]⟩
      · cases h
theorem WH {ty:TypeId} {g:List V} (s:FlatT P ty g) {xs:Array Value} {j:Nat}:(part ty xs j).run P w = .ok (.agg (xs.extract j (j+g.length))) w:=by
  obtain ⟨h1,_,⟨i,h3⟩,h4,_⟩:=s
  have hs:(sizeOf ty).run P w = .ok g.length w:=by
    have:P.cellsOf ty=i.size:=by simp[Program.cellsOf,h3]
    rw[←h4,this]
    simp[sizeOf,typeInfo,h3]
  simp[part,Go.isAgg,run_underlying h1,hs]
theorem eqG (d:Nat) (xs ys:Array Value):∀(fs:List Field) (gs:List (List V)) (cs ds:List V) (j:Nat) (b:Bool),XW P fs gs j→gk gs.flatten cs=true→gk gs.flatten ds=true→oi cs ds=some b →
    (∀i v,cs[i]? = some v→∃x,xs[j+i]? = some x∧eG w h c v x)→(∀i v,ds[i]? = some v→∃x,ys[j+i]? = some x∧eG w h c v x)→(Op.eqFields (d+2) xs ys fs).run P w = .ok b w
  | [], [],cs,ds,j,b,_,hc,hd,he,_,_=>by
    cases cs with
    | cons=>cases hc
    | nil =>
      cases ds with
      | cons=>cases hd
      | nil=>cases he; simp[Op.eqFields]
  | [],_::_,_,_,_,_,hn,_,_,_,_,_=>by cases hn
  | _::_, [],_,_,_,_,hn,_,_,_,_,_=>by cases hn
  | f::fs,g::gs,cs,ds,j,b,hn,hc,hd,he,hx,hy=>by
    obtain ⟨n1,n2,n3,n4⟩:=hn
    rw[List.flatten_cons]at hc hd
    obtain ⟨c1,c2⟩:=G2 hc
    obtain ⟨d1,d2⟩:=G2 hd
    have lc:=Le hc
    have ld:=Le hd
    rw[List.length_append]at lc ld
    obtain ⟨b1,b2,e1,e2,rfl⟩:=Ds g.length he (by omega)
    have behind:∀ {cs:List V} {xs:Array Value},(∀i v,cs[i]? = some v→∃x,xs[j+i]? = some x∧eG w h c v x)→∀i v,(cs.drop g.length)[i]? = some v→∃x,xs[(j+g.length)+i]? = some x∧eG w h c v x:=by
      intro cs xs hx i v hv
      rw[List.getElem?_drop]at hv
      obtain ⟨x,q1,q2⟩:=hx _ v hv
      exact ⟨x,by rw[←q1]; congr 1; omega,q2⟩
    have ih:=eqG d xs ys fs gs _ _ (j+g.length) b2 n4 c2 d2 e2 (behind hx) (behind hy)
    -- what the field is
    have key:∃x y,(part f.type xs j).run P w = .ok x w∧(part f.type ys j).run P w = .ok y w∧(Op.equalIn (d+2) f.type x y).run P w = .ok b1 w:=by
      rcases n3 with ⟨z,rfl,hz⟩|hF
      · -- one cell: the flat case, alone
        cases cs with
        | nil=>simp only[List.length_nil,List.length_cons]at lc; omega
        | cons c0 cs =>
          cases ds with
          | nil=>simp only[List.length_nil,List.length_cons]at ld; omega
          | cons d0 ds =>
            simp only[List.length_cons,List.length_nil,Nat.zero_add,List.take_succ_cons,List.take_zero]at c1 d1 e1
            obtain ⟨x,hx0,rx⟩:=hx 0 c0 rfl
            obtain ⟨y,hy0,ry⟩:=hy 0 d0 rfl
            rw[Nat.add_zero]at hx0 hy0
            refine ⟨x,y,Mj hz hx0,Mj hz hy0,?_⟩
            rcases hz with ⟨k,n,rfl,hu⟩|⟨s,rfl,hu⟩|⟨q,rfl,hu⟩
            · cases c0 <;> simp[gk]at c1
              cases d0 <;> simp[gk]at d1
              subst c1 d1
              cases rx
              cases ry
              simp only[oi,if_true,Option.some.injEq]at e1
              subst e1
              rw[Bool.and_true]
              exact run_equalIn_int w (d+1) _ _ _ _ _ hu
            · cases c0 <;> simp[gk]at c1
              cases d0 <;> simp[gk]at d1
              cases rx
              cases ry
              simp only[oi,Option.some.injEq]at e1
              subst e1
              rw[Bool.and_true]
              refine (run_equalIn_string w (d+1) f.type _ _ hu).trans ?_
              congr 1
              simp only[ByteArray.toList_eq]
            · cases c0 <;> simp[gk]at c1
              cases d0 <;> simp[gk]at d1
              cases rx
              cases ry
              simp only[oi,Option.some.injEq]at e1
              subst e1
              rw[Bool.and_true]
              exact run_equalIn_bool' w (d+1) _ _ _ hu
      · refine ⟨_,_,WH hF,WH hF,?_⟩
        obtain ⟨h1,h2,h3,h4,h5,h6⟩:=hF
        rw[run_equalIn_struct w (d+1) f.type _ _ h1 h2]
        have at0:∀ {cs:List V} {xs:Array Value},(∀i v,cs[i]? = some v→∃x,xs[j+i]? = some x∧eG w h c v x)→∀i v,(cs.take g.length)[i]? = some v→∃x,(xs.extract j (j+g.length))[0+i]? = some x∧eG w h c v x:=by
          intro cs xs hx i v hv
          have hi:i<g.length:=by
            have:=(List.getElem?_eq_some_iff.1 hv).1
            rw[List.length_take]at this
            omega
          rw[List.getElem?_take_of_lt hi]at hv
          obtain ⟨x,q1,q2⟩:=hx i v hv
          refine ⟨x,?_,q2⟩
          rw[Nat.zero_add,Array.getElem?_extract]
          have tT:j+i<xs.size:=(Array.getElem?_eq_some_iff.1 q1).1
          rw[if_pos (by omega),q1]
        exact eqF d _ _ _ _ _ _ 0 b1 h6 h5 c1 d1 e1 (at0 hx) (at0 hy)
    obtain ⟨x,y,p1,p2,hr⟩:=key
    simp only[Op.eqFields,n1,ne_eq,not_false_eq_true,if_true,Sem.run_bind,n2,p1,p2,Result.andThen_ok,hr]
    cases b1 with
    | true=>simpa using ih
    | false=>simp
def QH (P:Program) (tt:eF) (t:Nat):Prop :=
  P.underlying t=some (.struct (P.fieldsOf t))∧P.stoodInHeld t=false∧P.eqGuardType P.depth t=false∧∃gs,gs.flatten=(tt.at t).zero∧XW P (P.fieldsOf t).toList gs 0
def scalB (P:Program) (ty:TypeId):V→Bool
  | .int k _=>(match P.underlying ty with|some (.int k')=>decide (k'=k)|_=>false)
  | .str _=>(match P.underlying ty with|some .string=>true|_=>false)
  | .bool _=>(match P.underlying ty with|some .bool=>true|_=>false)
  | _=>false
theorem Uf {ty:TypeId} {z:V} (h:scalB P ty z=true):Scal P ty z:=by
  unfold scalB at h
  split at h
  · split at h
    · rename_i k n _ k' hu
      have e:k'=k:=by simpa using h
      subst e
      exact .inl ⟨_,_,rfl,hu⟩
    · cases h
  · split at h
    · rename_i hu; exact .inr (.inl ⟨_,rfl,hu⟩)
    · cases h
  · split at h
    · rename_i hu; exact .inr (.inr ⟨_,rfl,hu⟩)
    · cases h
  · cases h
def goodB (P:Program):List Field→List V→Nat→Bool
  | [], [],_=>true
  | f::fs,z::zs,j=>decide (f.name ≠ "_")&&decide (f.offset=j)&&scalB P f.type z&&goodB P fs zs (j+1)
  | _,_,_=>false
theorem Ug:∀(fs:List Field) (zs:List V) (j:Nat),goodB P fs zs j=true→fs.length=zs.length∧∀i f z,fs[i]? = some f→zs[i]? = some z→f.name ≠ "_" ∧ f.offset=j+i∧Scal P f.type z
  | [], [],_,_=>⟨rfl,fun i f z h=>by simp at h⟩
  | [],_::_,_,h=>by cases h
  | _::_, [],_,h=>by cases h
  | f::fs,z::zs,j,h=>by
    simp only[goodB,Bool.and_eq_true,decide_eq_true_eq]at h
    obtain ⟨⟨⟨h1,h2⟩,h3⟩,h4⟩:=h
    obtain ⟨g1,g2⟩:=Ug fs zs (j+1) h4
    refine ⟨by simp[g1],fun i g y hg hy => ?_⟩
    cases i with
    | zero =>
      simp at hg hy
      subst hg; subst hy
      exact ⟨h1,h2,Uf h3⟩
    | succ i =>
      obtain ⟨q1,q2,q3⟩:=g2 i g y (by simpa using hg) (by simpa using hy)
      exact ⟨q1,by omega,q3⟩
def flatB (P:Program) (ty:TypeId) (g:List V):Bool :=
  (match P.info? ty with|some _=>true|none=>false)&&Nat.beq (P.cellsOf ty) g.length && !P.stoodInHeld ty&&goodB P (P.fieldsOf ty).toList g 0
def WI (P:Program):List Field→List V→Nat→Bool
  | [],zs,_=>zs.isEmpty
  | f::fs,zs,j =>
    decide (f.name ≠ "_")&&decide (f.offset=j) &&
      (match P.underlying f.type with
       | some (.struct fl)=>flatB P f.type (zs.take fl.size)&&WI P fs (zs.drop fl.size) (j+fl.size)
       | _=>(match zs with|z::zr=>scalB P f.type z&&WI P fs zr (j+1) | []=>false))
theorem Oc:∀(fs:List Field) (zs:List V) (j:Nat),WI P fs zs j=true→∃gs:List (List V),gs.flatten=zs∧XW P fs gs j
  | [],zs,j,h=>⟨[],by simpa [WI]using h.symm,trivial⟩
  | f::fs,zs,j,h=>by
    simp only[WI,Bool.and_eq_true,decide_eq_true_eq]at h
    obtain ⟨⟨h1,h2⟩,h3⟩:=h
    split at h3
    · rename_i fl hu
      rw[Bool.and_eq_true]at h3
      obtain ⟨g1,g2⟩:=h3
      have hfo:P.fieldsOf f.type=fl:=by simp[Program.fieldsOf,hu]
      obtain ⟨gs,e1,e2⟩:=Oc fs _ _ g2
      unfold flatB at g1
      simp only[Bool.and_eq_true,Bool.not_eq_true']at g1
      obtain ⟨⟨⟨k1,k2⟩,k3⟩,k4⟩:=g1
      obtain ⟨q1,q2⟩:=Ug _ _ _ k4
      have hlen:(zs.take fl.size).length=fl.size:=by rw[←q1,hfo]; simp
      refine ⟨zs.take fl.size::gs,by rw[List.flatten_cons,e1,List.take_append_drop],h1,h2, .inr ⟨by rw[hfo]; exact hu,k3,?_,Nat.eq_of_beq_eq_true k2,q1,q2⟩,by rw[hlen]; exact e2⟩
      cases hi:P.info? f.type with
      | none=>rw[hi]at k1; cases k1
      | some i=>exact ⟨i,rfl⟩
    · split at h3
      · rename_i z zr
        rw[Bool.and_eq_true]at h3
        obtain ⟨gs,e1,e2⟩:=Oc fs _ _ h3.2
        exact ⟨[z]::gs,by rw[List.flatten_cons,e1]; rfl,h1,h2, .inl ⟨z,rfl,Uf h3.1⟩,e2⟩
      · cases h3
theorem QH.of {t:Nat} (h1:P.underlying t=some (.struct (P.fieldsOf t))) (h2:P.stoodInHeld t=false) (h3:P.eqGuardType P.depth t=false) (h4:WI P (P.fieldsOf t).toList (tt.at t).zero 0=true):QH P tt t :=
  ⟨h1,h2,h3,Oc _ _ _ h4⟩
theorem eqOk_eq {i:TI} {a b:List V} (h:Xt i a b=true):i.eq=true:=by
  unfold Xt at h
  simp only[Bool.and_eq_true]at h
  exact h.1.1
theorem eqs_flat {t:Nat} (e:QH P tt t) {cs ds:List V} {xs ys:Array Value} {b:Bool} (hk:Xt (tt.at t) cs ds=true) (rx:cT w h c cs xs.toList) (ry:cT w h c ds ys.toList) (hb:oi cs ds=some b) :
    P.eqGuardType P.depth t=false∧(Op.equalIn 10000 t (.agg xs) (.agg ys)).run P w = .ok b w:=by
  obtain ⟨e1,e2,e3,gs,e4,e5⟩:=e
  refine ⟨e3,?_⟩
  unfold Xt at hk
  simp only[Bool.and_eq_true]at hk
  rw[run_equalIn_struct w 9999 t xs ys e1 e2]
  have get:∀ {cs:List V} {xs:Array Value},cT w h c cs xs.toList→∀i v,cs[i]? = some v→∃x,xs[0+i]? = some x∧eG w h c v x:=by
    intro cs xs r i v hv
    have hi:=(List.getElem?_eq_some_iff.1 hv).1
    have hl:i<xs.size:=by have:=r.1; simp at this; omega
    refine ⟨xs[i],by simp[hl],r.2 i v _ hv (by simp[hl])⟩
  exact eqG 9997 xs ys _ gs cs ds 0 b e5 (by rw[e4]; exact hk.1.2) (by rw[e4]; exact hk.2) hb (get rx) (get ry)
end
section
variable {R:Type} {P:Program} {tt:eF}
mutual
def Json.depth:Json→Nat
 | ⟨_,_,_,_,l⟩=>Json.Lf l+1
def Json.Lf:List Json→Nat
 | []=>0
 | x::l=>max x.depth (Json.Lf l)
end
mutual
def Raw.depth:Raw→Nat
 | ⟨_,_,_,_,l⟩=>Raw.Lf l+1
def Raw.Lf:List Raw→Nat
 | []=>0
 | x::l=>max x.depth (Raw.Lf l)
end
def dH.fu (x:dH):Nat:=x.aF.natAbs+x.exp.natAbs
def Json.fu (x:Json):Nat:=x.text.length+x.names.length+x.items.length
def Raw.fu (x:Raw):Nat:=x.text.length+x.items.length
def OJ.fu (x:OJ):Nat:=x.kind.natAbs+x.aF.natAbs+x.exp.natAbs+x.text.length
def Fld.fu (x:Fld):Nat:=x.name.length
def Vw.fu (x:Vw):Nat:=x.topic.length+x.data.length
def Token.fu (x:Token):Nat:=x.text.length
def Stop.fu (x:Stop):Nat:=0
def Way.fu (x:Way):Nat:=0
def Order.fu (x:Order):Nat:=x.header.natAbs+x.wU.length+x.order.natAbs+x.update.natAbs+x.nodes.length+x.Tg.length
def Edge.fu (x:Edge):Nat:=0
def GY.fu (x:GY):Nat:=x.nodes.natAbs+x.Tg.length
def Na.fu (x:Na):Nat:=x.maker.length+x.serial.length+x.kind.length
def State.fu (x:State):Nat:=x.header.natAbs+x.boot.natAbs+x.wU.length+x.order.natAbs+x.update.natAbs+x.node.natAbs+x.seq.natAbs+x.accepted.natAbs
def Ctl.fu (x:Ctl):Nat:=x.wU.length+x.header.natAbs+x.order.natAbs+x.update.natAbs+x.boot.natAbs+x.seen.natAbs+x.path.length+x.seq.natAbs+x.rel.natAbs+x.pending.header.natAbs+x.pending.wU.length+x.pending.order.natAbs+x.pending.update.natAbs+x.pending.nodes.length+x.pending.Tg.length
def Vx.fu (x:Vx):Nat:=x.kind.natAbs+x.i.natAbs+x.k.natAbs+x.by_.natAbs+x.data.length
def JP.fu (x:JP):Nat:=x.header.natAbs+x.order.natAbs+x.update.natAbs+x.seq.natAbs+x.from_.natAbs+x.DB.natAbs+x.turns.length
def Vy.fu (x:Vy):Nat:=x.kind.natAbs+x.o.header.natAbs+x.o.order.natAbs+x.o.update.natAbs+x.o.seq.natAbs+x.o.from_.natAbs+x.o.DB.natAbs+x.o.turns.length+x.data.length
def Vz.fu (x:Vz):Nat:=x.kind.natAbs+x.n.natAbs+x.turns.length
def VA.fu (x:VA):Nat:=x.a.natAbs+x.b.natAbs+x.c.natAbs
def RZ.fu (x:RZ):Nat:=x.a.natAbs+x.b.natAbs
def VB.fu (x:VB):Nat:=x.a.aF.natAbs+x.a.exp.natAbs+x.b.aF.natAbs+x.b.exp.natAbs
def VC.fu (x:VC):Nat:=x.name.length+x.home.natAbs
def Job.fu (x:Job):Nat:=x.id.natAbs+x.target.natAbs+x.state.natAbs+x.wU.natAbs
def GZ.fu (x:GZ):Nat:=x.kind.natAbs+x.nums.length+x.text.length
theorem IP (rs:List Ty) (t:Nat):∃b,(tt.mode rs).at t = { tt.at t with rowy:=b }:=by
 unfold eF.mode eF.at
 simp only[List.getD,List.getElem?_map]
 cases tt[t]? with
 | none=>exact ⟨false,rfl⟩
 | some i=>exact ⟨_,rfl⟩
theorem XX (rs:List Ty) (t:Nat):(tt.mode rs).ok t=tt.ok t:=by
 obtain ⟨b,h⟩:=IP (tt:=tt) rs t
 unfold eF.ok
 rw[h]
theorem A6.mode (T:A6 P tt) (rs:List Ty):A6 P (tt.mode rs) where
 und:=fun t=>by obtain ⟨b,h⟩:=IP (tt:=tt) rs t; rw[h]; exact T.und t
 info:=fun t ht=>by
  rw[XX]at ht
  obtain ⟨b,h⟩:=IP (tt:=tt) rs t
  rw[h]
  exact T.info t ht
 eqs:=fun t w h c cs ds xs ys b hk=>by
  obtain ⟨b',h'⟩:=IP (tt:=tt) rs t
  rw[h']at hk
  exact T.eqs t w h c cs ds xs ys b hk
 u8s:=fun e he=>by
  obtain ⟨b,h⟩:=IP (tt:=tt) rs e
  rw[h]at he
  exact T.u8s e he
 blds:=fun t ht=>by
  obtain ⟨b,h⟩:=IP (tt:=tt) rs t
  rw[h]at ht
  rw[XX,h]
  exact T.blds t ht
 ones:=fun t ht=>by
  rw[XX]at ht
  obtain ⟨b,h⟩:=IP (tt:=tt) rs t
  have e:(tt.mode rs).isAgg t=tt.isAgg t:=by unfold eF.isAgg; rw[h]
  rw[e]
  exact T.ones t ht
theorem fw {D:Type} {E:Env R} {L:Nat→Option (Hint × dC R)} {m:Nat} {a:Code} {hint:Hint} (enc:D→St)
  (s:(Ex→St→Option R)→(D→Option R)→D→Option R) (A:(Ex→St→Option R)→Nat→D→Option R)
  (h0:∀K d,A K 0 d=none)
  (hB:∀K dq d,roundOf tt E L m a hint (enc d) dq K=s K (fun d=>dq (enc d)) d)
  (hA:∀K n d,A K (n+1) d=s K (A K n) d) (K:Ex→St→Option R) :
  ∀n d,GC (mj tt E L m a) (norm m hint) n (enc d) (fun e st=>K e (trim m hint st))=A K n d
 | 0,d=>(h0 K d).symm
 | n+1,d=>by
  rw[loopN_succ,hB,hA]
  exact congrArg (fun q=>s K q d) (funext fun d=>fw enc s A h0 hB hA K n d)
theorem dL {D:Type} {E:Env R} {L:Nat→Option (Hint × dC R)} {m:Nat} {a:Code} {hint:Hint} {ps:List bE} {hs:List aA}
  {run:bE.au ps→aA.au hs→(Ex→St→Option R)→Option R} {other:dC R} {enc:D→St} {A:(Ex→St→Option R)→Nat→D→Option R}
  (ho:jt tt E L m a hint other)
  (tie:∀K n d,GC (mj tt E L m a) (norm m hint) n (enc d) (fun e st=>K e (trim m hint st))=A K n d)
  (fuel:bE.au ps→aA.au hs→Nat) (dat:bE.au ps→aA.au hs→D)
  (henc:∀x y,(⟨bE.eD ps x,aA.eD hs y⟩:St)=enc (dat x y))
  (qh:∀x y K,run x y K=A K (fuel x y) (dat x y)):jt tt E L m a hint (dx ps hs run other) :=
 loopBy_ok ho fun x y K=>⟨fuel x y,by rw[henc,qh]; exact tie K _ _⟩
theorem FC {g:Nat} {ps:List bE} {hs:List aA} {run:Nat→bE.au ps→aA.au hs→(V→aO→Option R)→Option R} {other:Spec R}
  (fuel:bE.au ps→aA.au hs→Nat) (ho:Spec.Ok P g other)
  (h:∀n,Spec.Ok P g (bm ps hs (run n) bb)):Spec.Ok P g (bm ps hs (fun x y k=>run (fuel x y) x y k) other):=by
 intro vs hp k r hk
 unfold bm at hk
 split at hk
 ·rename_i x y h1 h2
  refine h (fuel x y) vs hp k r ?_
  unfold bm
  rw[h1,h2]
  exact hk
 ·exact ho _ _ _ _ hk
theorem wu {g:Nat} {ps:List bE} {hs:List aA} {run:Nat→bE.au ps→aA.au hs→(V→aO→Option R)→Option R}
  (h0:∀x y k,run 0 x y k=none)
  (hs':∀n,Spec.Ok P g (bm ps hs (run n) bb)→Spec.Ok P g (bm ps hs (run (n+1)) bb)):∀n,Spec.Ok P g (bm ps hs (run n) bb)
 | 0=>by
  intro vs hp k r hk
  unfold bm at hk
  split at hk
  ·rw[h0]at hk; cases hk
  ·cases hk
 | n+1=>hs' n (wu h0 hs' n)
theorem CA {g:Nat} {ps:List bE} {hs:List aA} {run run':bE.au ps→aA.au hs→(V→aO→Option R)→Option R} {other:Spec R}
  (h:Spec.Ok P g (bm ps hs run other)) (e:run'=run):Spec.Ok P g (bm ps hs run' other):=e▸h
end
abbrev s9 (s:ah):List Int:=NV s
end Go.aG
end
