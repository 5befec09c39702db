/-
  JsonAgain: for every input whose bulk is at most 1048576 the law returns true, and each argument reads behind the call as it read before; part 3 of 9 of the proof: an interpreter of the model's code over typed data, proved sound; the functions that the law reaches, printed as Lean functions and tied; the plain law. Own texts laid one behind the other.
-/
import Derived.Calls
import Derived.Orders
import Derived.ChangeKeysEq
import Derived.Test.YtmlkkgfenfdndaaGreatDoorJsonAgainB2
set_option linter.unusedSimpArgs false
set_option linter.unnecessarySimpa false
set_option linter.unusedVariables false
set_option linter.unusedSectionVars false
namespace Go.ay
open Go.RowKit

section
variable {w w':World} {h h':az} {c c':kA}

theorem rO {i:Nat}:∀ {cs:List V},i∈V.s6 cs↔∃(j:Nat) (v:V),cs[j]? = some v∧i∈v.ids
  | []=>by simp[V.s6]
  | v::cs=>by
    simp only[V.s6,List.mem_append,rO (cs:=cs)]
    constructor
    · rintro (h|⟨j,u,h1,h2⟩)
      · exact ⟨0,v,rfl,h⟩
      · exact ⟨j+1,u,h1,h2⟩
    · rintro ⟨j,u,h1,h2⟩
      cases j with
      | zero=>simp at h1; subst h1; exact .inl h2
      | succ j=>exact .inr ⟨j,u,h1,h2⟩

theorem dK.zP {v:V} {d:Value} (r:dK w h c v d):∀i∈v.ids,Used h i:=by
  induction r with
  | undef v=>simp[V.ids]
  | int hn=>simp[V.ids]
  | bool b=>simp[V.ids]
  | str hl=>simp[V.ids]
  | eQ=>simp[V.ids]
  | cJ=>simp[V.ids]
  | aV=>simp[V.ids]
  | oN=>simp[V.ids]
  | cX=>simp[V.ids]
  | iface t v=>simp[V.ids]
  | FA hn=>simp[V.ids]
  | GK b=>simp[V.ids]
  | ptr hi _=>simpa [V.ids]using hi
  | map hi _=>simpa [V.ids]using hi
  | row hi _ _=>simpa [V.ids]using hi
  | Ds hi _ _=>simpa [V.ids]using hi
  | tJ hi _=>simpa [V.ids]using hi
  | yc f hc _ ih =>
    intro i hi
    simp only[V.ids]at hi
    obtain ⟨j,v,h1,h2⟩:=rO.1 hi
    exact ih j v h1 i h2
  | @sl T l t A cap f me s7 hc hr yv nk ih =>
    intro i hi
    cases t with
    | no=>simp[V.ids]at hi
    | nil=>simp[V.ids]at hi
    | own j=>simp[V.ids]at hi; subst hi; exact (nk i rfl).1
  | N8 hn s7 f hc _ ih =>
    intro i hi
    simp only[V.ids]at hi
    obtain ⟨j,v,h1,h2⟩:=rO.1 hi
    exact ih j v h1 i h2
  | @func f a b x y ha hb _ _ iha ihb =>
    intro i hi
    simp only[V.ids,List.mem_append]at hi
    rcases hi with hi|hi
    · obtain ⟨j,v,h1,h2⟩:=rO.1 hi
      have hj:=(List.getElem?_eq_some_iff.1 h1).1
      exact iha j v _ h1 (Array.getElem?_eq_getElem (by omega)) i h2
    · obtain ⟨j,v,h1,h2⟩:=rO.1 hi
      have hj:=(List.getElem?_eq_some_iff.1 h1).1
      exact ihb j v _ h1 (Array.getElem?_eq_getElem (by omega)) i h2
  | agg hl _ ih =>
    intro i hi
    simp only[V.ids]at hi
    obtain ⟨j,v,h1,h2⟩:=rO.1 hi
    have hj:=(List.getElem?_eq_some_iff.1 h1).1
    exact ih j v _ h1 (Array.getElem?_eq_getElem (by omega)) i h2
  | tuple hl _ ih =>
    intro i hi
    simp only[V.ids]at hi
    obtain ⟨j,v,h1,h2⟩:=rO.1 hi
    have hj:=(List.getElem?_eq_some_iff.1 h1).1
    exact ih j v _ h1 (Array.getElem?_eq_getElem (by omega)) i h2

theorem cK.zP {cs:List V} {ds:List Value} (r:cK w h c cs ds):∀i∈V.s6 cs,Used h i:=by
  intro i hi
  obtain ⟨j,v,h1,h2⟩:=rO.1 hi
  have hj:=(List.getElem?_eq_some_iff.1 h1).1
  exact (r.2 j v _ h1 (List.getElem?_eq_getElem (by have:=r.1; omega))).zP i h2

theorem WF.zP (wf:WF w h c) (i:Nat):∀j∈(h.at i).ids,Used h j:=by
  intro j hj
  cases e:h.at i with
  | cells cs =>
    rw[e]at hj
    have ho:=wf.obj i (az.gM rfl (by rw[e]; simp))
    rw[e]at ho
    obtain ⟨b,arr,el,_,_,r⟩:=ho
    exact r.zP j hj
  | kW v =>
    rw[e]at hj
    have ho:=wf.obj i (az.gM rfl (by rw[e]; simp))
    rw[e]at ho
    obtain ⟨b,p,d,_,_,_,r⟩:=ho
    exact r.zP j hj
  | _=>rw[e]at hj; simp[ca.ids]at hj

theorem HF (wf:WF w h c):∀(n:Nat) (todo seen:List Nat),(∀i∈todo,Used h i)→(∀i∈seen,Used h i)→∀i∈reach h n todo seen,Used h i
  | 0,_,_,_,hs=>hs
  | n+1, [],_,_,hs=>hs
  | n+1,i::todo,seen,ht,hs=>by
    simp only[reach]
    split
    · exact HF wf n _ _ (fun j hj=>ht j (by simp[hj])) hs
    · refine HF wf n _ _ (fun j hj => ?_) (fun j hj => ?_)
      · rcases List.mem_append.1 hj with hj|hj
        · exact ht j (by simp[hj])
        · exact wf.zP i j hj
      · rcases List.mem_append.1 hj with hj|hj
        · exact hs j hj
        · simp at hj; subst hj; exact ht j (by simp)

theorem uo.lt (wf:WF w h c) {b x:Nat} (ho:uo h c b x):b<w.heap.size:=by
  obtain ⟨i,f,h1,h2,_⟩:=ho
  have hl:(h.at i).live:=by cases e:h.at i <;> rw[e]at h2 <;> simp_all [ca.from_,ca.live]
  exact (wf.obj i (az.gM rfl (w7 hl))).lt hl h1

theorem Wz {o:ca} (h:o.live) (f:Nat):∃g,o.from_ f=some g:=by cases o <;> simp_all [ca.from_,ca.live]

def IF (h:az) (c:kA) (ord:List Nat) (b x:Nat):Prop:=∃i∈ord,∃f,c.s5 i=some b∧(h.at i).from_ (c.off i)=some f∧f≤x

def Mv (h:az) (c:kA) (ord:List Nat):Rh:=⟨fun b x=>c.ext b x∨(uo h c b x∧¬IF h c ord b x)⟩

theorem IF.wK {ord:List Nat} {b x:Nat} (o:IF h c ord b x):uo h c b x:=by obtain ⟨i,_,f,h1,h2,h3⟩:=o; exact ⟨i,f,h1,h2,h3⟩

theorem Mw {ord:List Nat}:∀b x,GL h c b x→¬Mv h c ord b x:=by
  rintro b x hf (he|he)
  · exact hf.2 he
  · exact hf.1 he.1

theorem JT (wf:WF w h c) {ord:List Nat} (E7:ord.Nodup):WF w (h.pick ord) (c.pick ord (Mv h c ord)):=by
  refine U8 wf E7 Mw ?_ ?_
  · rintro b x (he|he)
    · exact wf.pP b x he
    · exact he.1.lt wf
  · rintro b x ho (he|he)
    · exact wf.yw b x (IF.wK ho) he
    · exact he.2 ho

theorem HG {ord:List Nat} {cs:List V} {ds:List Value} (r:cK w h c cs ds):cK w (h.pick ord) (c.pick ord (Mv h c ord)) (V.yt (yp ord) cs) ds :=
  r.pZ (Mu Mw)

theorem fW:∀(l:List (Nat × ca)) (h:az),(az.Ao h l).length=h.length
  | [],_=>rfl
  | (i,o)::l,h=>by simp[az.Ao,fW l]

theorem Ef {i:Nat}:∀(ord:List Nat) (os:List ca) (h:az),i∉ord→az.at (az.Ao h (ord.zip os)) i=h.at i
  | [],_,_,_=>rfl
  | _::_, [],_,_=>rfl
  | a::ord,o::os,h,hn=>by
    simp only[List.zip_cons_cons,az.Ao]
    rw[Ef ord os _ (fun hm=>hn (by simp[hm]))]
    exact de _ (fun e=>hn (by simp[e]))

theorem JU {i:Nat}:∀(ord:List Nat) (os:List ca) (h:az) (j:Nat) (o:ca),ord.Nodup→ord[j]? = some i→os[j]? = some o→i<h.length→az.at (az.Ao h (ord.zip os)) i=o
  | [],_,_,_,_,_,hj,_,_=>by simp at hj
  | _::_, [],_,_,_,_,_,ho,_=>by simp at ho
  | a::ord,p::os,h,j,o,E7,hj,ho,hi=>by
    simp only[List.zip_cons_cons,az.Ao]
    cases j with
    | zero =>
      simp at hj ho
      subst hj; subst ho
      rw[Ef ord os _ (by simpa using (List.nodup_cons.1 E7).1)]
      exact nq _ hi
    | succ j=>exact JU ord os _ j o (List.nodup_cons.1 E7).2 (by simpa using hj) (by simpa using ho) (by simpa using hi)

theorem ly {a b:az} {i:Nat} (hi:i<a.length):az.at (a++b) i=az.at a i:=by simp[az.at,List.getD,List.getElem?_append_left hi]
theorem kg {a b:az} {i:Nat} (hi:a.length≤i):az.at (a++b) i=az.at b (i - a.length):=by simp[az.at,List.getD,List.getElem?_append_right hi]

theorem IG {ord:List Nat} (E7:ord.Nodup) {i j:Nat} (e:ord[j]? = some i):yp ord i=some j:=by
  obtain ⟨hj,rfl⟩:=List.getElem?_eq_some_iff.1 e
  have hm:ord[j]∈ord:=List.getElem_mem hj
  have lp:ord.idxOf ord[j]<ord.length:=List.idxOf_lt_length_of_mem hm
  unfold yp
  simp only[lp,if_true]
  have hg:=List.getElem_idxOf lp
  have hp:=List.pairwise_iff_getElem.1 E7
  rcases Nat.lt_trichotomy (ord.idxOf ord[j]) j with hl|he|hl
  · exact (hp _ _ lp hj hl hg).elim
  · rw[he]
  · exact (hp _ _ hj lp hl hg.symm).elim

theorem yB {ord:List Nat} {i:Nat} (h:i∉ord):yp ord i=none:=by
  cases e:yp ord i with
  | none=>rfl
  | some j=>exact (h (List.mem_of_getElem? (BZ e))).elim

def kA.back (c:kA) (ord:List Nat) (n:Nat) (c':kA):kA :=
  ⟨fun i=>match yp ord i with|some j=>c'.s5 j|none=>if i<n then c.s5 i else c'.s5 (i - n+ord.length),
   fun i=>match yp ord i with|some j=>c'.off j|none=>if i<n then c.off i else c'.off (i - n+ord.length),c.ext⟩

theorem CR {ord:List Nat} (E7:ord.Nodup) (lp:∀i∈ord,i<h.length) (hle:ord.length≤h'.length) (i:Nat) :
    (∃j,pD ord h.length j=i∧j<h'.length∧az.at (h.back ord h') i=(h'.at j).pZ (fun j=>some (pD ord h.length j))∧(c.back ord h.length c').s5 i=c'.s5 j∧(c.back ord h.length c').off i=c'.off j) ∨
    (i∉ord∧i<h.length∧az.at (h.back ord h') i=h.at i∧(c.back ord h.length c').s5 i=c.s5 i∧(c.back ord h.length c').off i=c.off i) ∨
    ((h.back ord h').length≤i∧az.at (h.back ord h') i = .dead):=by
  have hlen:(h.back ord h').length=h.length+(h'.length - ord.length):=by simp[az.back,fW]
  by_cases hm:i∈ord
  · obtain ⟨j,hj,e⟩:=List.mem_iff_getElem.1 hm
    have e':ord[j]? = some i:=by rw[List.getElem?_eq_getElem hj,e]
    have hi:=lp i hm
    refine .inl ⟨j,by simp[pD,hj,List.getD,e],by omega,?_,by simp[kA.back,IG E7 e'],by simp[kA.back,IG E7 e']⟩
    unfold az.back
    simp only
    rw[ly (by rw[fW]; exact hi)]
    refine JU ord _ h j _ E7 e' ?_ hi
    have OX:j<h'.length:=by omega
    simp[hj,az.at,List.getD,List.getElem?_eq_getElem OX]
  · by_cases hi:i<h.length
    · refine .inr (.inl ⟨hm,hi,?_,by simp[kA.back,yB hm,hi],by simp[kA.back,yB hm,hi]⟩)
      unfold az.back
      simp only
      rw[ly (by rw[fW]; exact hi)]
      exact Ef ord _ h hm
    · by_cases hb:i<(h.back ord h').length
      · rw[hlen]at hb
        refine .inl ⟨i - h.length+ord.length,?_,by omega,?_,by simp[kA.back,yB hm,hi],by simp[kA.back,yB hm,hi]⟩
        · have:¬(i - h.length+ord.length<ord.length):=by omega
          simp only[pD,this,if_false]
          omega
        · unfold az.back
          simp only
          rw[kg (by rw[fW]; omega),fW]
          have pQ:i - h.length+ord.length<h'.length:=by omega
          have hq:ord.length+(i - h.length)=i - h.length+ord.length:=by omega
          simp[az.at,List.getD,hq,List.getElem?_eq_getElem pQ]
      · refine .inr (.inr ⟨by omega,?_⟩)
        simp[az.at,List.getD,List.getElem?_eq_none (Nat.le_of_not_lt hb)]

theorem LD {ord:List Nat} (E7:ord.Nodup) (lp:∀i∈ord,i<h.length) (hle:ord.length≤h'.length) (j:Nat) :
    az.at (h.back ord h') (pD ord h.length j)=(h'.at j).pZ (fun j=>some (pD ord h.length j))∧(c.back ord h.length c').s5 (pD ord h.length j)=c'.s5 j∧(c.back ord h.length c').off (pD ord h.length j)=c'.off j:=by
  have hlen:(h.back ord h').length=h.length+(h'.length - ord.length):=by simp[az.back,fW]
  by_cases hj:j<ord.length
  · have hb:pD ord h.length j=ord[j]:=by simp[pD,hj,List.getD]
    have e':ord[j]? = some ord[j]:=List.getElem?_eq_getElem hj
    have hi:=lp _ (List.getElem_mem hj)
    rw[hb]
    refine ⟨?_,by simp[kA.back,IG E7 e'],by simp[kA.back,IG E7 e']⟩
    unfold az.back
    simp only
    rw[ly (by rw[fW]; exact hi)]
    refine JU ord _ h j _ E7 e' ?_ hi
    have OX:j<h'.length:=by omega
    simp[hj,az.at,List.getD,List.getElem?_eq_getElem OX]
  · have hb:pD ord h.length j=h.length+(j - ord.length):=by simp[pD,hj]
    have hm:h.length+(j - ord.length)∉ord:=fun hm=>by have:=lp _ hm; omega
    have hn:¬(h.length+(j - ord.length)<h.length):=by omega
    have hs:h.length+(j - ord.length) - h.length+ord.length=j:=by omega
    rw[hb]
    refine ⟨?_,by simp only[kA.back,yB hm,hn,if_false,hs],by simp only[kA.back,yB hm,hn,if_false,hs]⟩
    unfold az.back
    simp only
    rw[kg (by rw[fW]; omega),fW]
    have hq:h.length+(j - ord.length) - h.length=j - ord.length:=by omega
    have VX:ord.length+(j - ord.length)=j:=by omega
    rw[hq]
    by_cases OX:j<h'.length
    · simp[az.at,List.getD,VX,List.getElem?_eq_getElem OX]
    · simp[az.at,List.getD,VX,List.getElem?_eq_none (Nat.le_of_not_lt OX),ca.pZ]

theorem WA {ρ:Nat→Option Nat} {o o':ca}:(o.pZ ρ).iQ o'↔o.iQ o':=by cases o <;> cases o' <;> simp[ca.pZ,ca.iQ,uW]
theorem O3 {ρ:Nat→Option Nat} {o o':ca}:o.iQ (o'.pZ ρ)↔o.iQ o':=by cases o <;> cases o' <;> simp[ca.pZ,ca.iQ,uW]
theorem DE {o:ca} (h:o.live) (hm:∀K T l,o ≠ .vL K T l∨True):o.iQ o:=by cases o <;> simp_all [ca.iQ,ca.live]

theorem O4 (wf:WF w h c) {ord:List Nat} (E7:ord.Nodup) (hu:∀i∈ord,Used h i) (U2:WF w' h' c') (x:Ext w (h.pick ord) (c.pick ord (Mv h c ord)) w' h' c') :
    WF w' (h.back ord h') (c.back ord h.length c')∧Ext w h c w' (h.back ord h') (c.back ord h.length c')∧O2 (fun j=>some (pD ord h.length j)) h' c' (h.back ord h') (c.back ord h.length c'):=by
  have lp:∀i∈ord,i<h.length:=fun i hi=>(hu i hi).1
  have hup:∀j,j<ord.length→Used (h.pick ord) j:=fun j hj=>by
    refine ⟨by simpa [az.pick]using hj,?_⟩
    rw[vB,List.getElem?_eq_getElem hj]
    simp only[ne_eq,DA]
    exact (hu _ (List.getElem_mem hj)).2
  have hle:ord.length≤h'.length:=by
    rcases Nat.eq_zero_or_pos ord.length with h0|h0
    · omega
    · have:=(x.used _ (hup (ord.length - 1) (by omega))).1; omega
  have hlen:(h.back ord h').length=h.length+(h'.length - ord.length):=by simp[az.back,fW]
  -- who owns a cell
  have IB:∀b y,uo (h.back ord h') (c.back ord h.length c') b y→uo h' c' b y∨∃i f,i∉ord∧i<h.length∧c.s5 i=some b∧(h.at i).from_ (c.off i)=some f∧f≤y:=by
    rintro b y ⟨i,f,h1,h2,h3⟩
    rcases CR (c:=c) (c':=c') E7 lp hle i with ⟨j,_,_,g1,g2,g3⟩|⟨g0,g1,g2,g3,g4⟩|⟨_,g1⟩
    · rw[g2]at h1; rw[g1,g3,RN]at h2
      exact .inl ⟨j,f,h1,h2,h3⟩
    · rw[g3]at h1; rw[g2,g4]at h2
      exact .inr ⟨i,f,g0,g1,h1,h2,h3⟩
    · rw[g1]at h2; cases h2
  have Yf:∀i f b y,i∉ord→c.s5 i=some b→(h.at i).from_ (c.off i)=some f→f≤y→Mv h c ord b y:=by
    intro i f b y hi h1 h2 h3
    refine .inr ⟨⟨i,f,h1,h2,h3⟩,?_⟩
    rintro ⟨i2,hm,f2,g1,g2,g3⟩
    have:=wf.inj i i2 b (tM h2) (tM g2) h1 g1
    subst this
    exact hi hm
  have RO:∀b y,uo (h.pick ord) (c.pick ord (Mv h c ord)) b y→IF h c ord b y:=fun b y ho=>DC ho
  have hext:c'.ext=Mv h c ord:=x.ext
  have hren:O2 (fun j=>some (pD ord h.length j)) h' c' (h.back ord h') (c.back ord h.length c'):=by
    refine ⟨fun i j e hi => ?_,fun i j e hd => ?_,fun i j e ht => ?_,fun i j e T l ht => ?_,fun b y hf=>⟨fun ho => ?_,fun he => ?_⟩⟩
    · cases e
      obtain ⟨g1,_,_⟩:=LD (c:=c) (c':=c') E7 lp hle i
      refine ⟨?_,by rw[g1]; simp only[ne_eq,DA]; exact hi.2⟩
      rw[hlen]
      unfold pD
      have:=hi.1
      split
      · rename_i hj
        have:=lp _ (List.getElem_mem hj)
        simp only[List.getD,List.getElem?_eq_getElem hj,Option.getD_some]
        omega
      · omega
    · cases e
      obtain ⟨g1,g2,g3⟩:=LD (c:=c) (c':=c') E7 lp hle i
      rw[g1]at hd
      simp only[ne_eq,IE]at hd
      exact ⟨hd,g2,g3⟩
    · cases e
      rw[(LD (c:=c) (c':=c') E7 lp hle i).1]at ht
      exact U6.1 ht
    · cases e
      rw[(LD (c:=c) (c':=c') E7 lp hle i).1]at ht
      exact U7.1 ht
    · rcases IB b y ho with ho|⟨i,f,g0,_,g2,g3,g4⟩
      · exact hf.1 ho
      · exact hf.2 (by rw[hext]; exact Yf i f b y g0 g2 g3 g4)
    · exact hf.2 (by rw[hext]; exact .inl he)
  have hx:Ext w h c w' (h.back ord h') (c.back ord h.length c'):=by
    refine ⟨x.os,x.tape,x.output,x.size,fun i hi => ?_,fun i hi hd => ?_,fun b y hb ho=>x.cell b y hb (fun o=>ho (RO b y o).wK),fun b hb ho=>x.block b hb (fun y o=>ho y (RO b y o).wK),fun b y hb ho => ?_,rfl,x.arr⟩
    · rcases CR (c:=c) (c':=c') E7 lp hle i with ⟨j,g0,gj,g1,g2,g3⟩|⟨g0,g1,g2,g3,g4⟩|⟨g0,_⟩
      · refine ⟨by have:=hi.1; omega,?_⟩
        rw[g1]; simp only[ne_eq,DA]
        have hjo:j<ord.length:=by
          unfold pD at g0
          split at g0
          · assumption
          · have:=hi.1; omega
        exact (x.used j (hup j hjo)).2
      · exact ⟨by omega,by rw[g2]; exact hi.2⟩
      · have:=hi.1; omega
    · rcases CR (c:=c) (c':=c') E7 lp hle i with ⟨j,g0,gj,g1,g2,g3⟩|⟨g0,g1,g2,g3,g4⟩|⟨g0,_⟩
      · have hjo:j<ord.length:=by
          unfold pD at g0
          split at g0
          · assumption
          · have:=hi.1; omega
        have e:ord[j]? = some i:=by
          simp only[pD,hjo,if_true,List.getD,List.getElem?_eq_getElem hjo,Option.getD_some]at g0
          rw[List.getElem?_eq_getElem hjo,g0]
        rw[g1]at hd ⊢
        simp only[ne_eq,IE]at hd
        obtain ⟨s1,s2,s3⟩:=x.same j (hup j hjo) hd
        rw[vB,e]at s1
        rw[g2,g3,s2,s3]
        exact ⟨O3.2 (WA.1 s1),by simp[kA.pick,e],by simp[kA.pick,List.getD,e]⟩
      · rw[g2]at hd ⊢
        exact ⟨DE (Gt hi.2 hd) (fun _ _ _ => .inr trivial),g3,g4⟩
      · have:=hi.1; omega
    · rcases IB b y ho with ho|⟨i,f,g0,_,g2,g3,g4⟩
      · exact (RO b y (x.wK b y hb ho)).wK
      · exact ⟨i,f,g2,g3,g4⟩
  refine ⟨⟨fun b y ho he => ?_,fun b y he=>Nat.lt_of_lt_of_le (wf.pP b y he) x.size,fun i hi => ?_,fun i j b hi hj h1 h2 => ?_,wf.sA hx⟩,hx,hren⟩
  · rcases IB b y ho with ho|⟨i,f,g0,_,g2,g3,g4⟩
    · exact U2.yw b y ho (by rw[hext]; exact .inl he)
    · exact wf.yw b y ⟨i,f,g2,g3,g4⟩ he
  · rcases CR (c:=c) (c':=c') E7 lp hle i with ⟨j,g0,gj,g1,g2,g3⟩|⟨g0,g1,g2,g3,g4⟩|⟨_,g0⟩
    · rw[g1]
      exact (U2.obj j gj).pZ hren g2 g3
    · rw[g2]
      by_cases hl:(h.at i).live
      · refine (wf.obj i g1).keep hx (fun b hb=>x.block b ((wf.obj i g1).lt hl hb) fun y o => ?_) g3 g4
        obtain ⟨i2,hm,f2,k1,k2,_⟩:=RO b y o
        have:=wf.inj i i2 b hl (tM k2) hb k1
        subst this
        exact g0 hm
      · have h0:h.at i = .free∨h.at i = .dead:=by revert hl; cases h.at i <;> simp[ca.live]
        rcases h0 with h0|h0 <;> rw[h0] <;> trivial
    · rw[g0]; trivial
  · have key:∀i j b,i∉ord→(h.at i).live→c.s5 i=some b→(h'.at j).live→c'.s5 j=some b→False:=by
      intro i j b hi hl hb XQ pQ
      have Qj:=(wf.obj i (az.gM rfl (w7 hl))).lt hl hb
      obtain ⟨f,hf⟩:=Wz XQ (c'.off j)
      obtain ⟨i2,hm,f2,k1,k2,_⟩:=RO b f (x.wK b f Qj ⟨j,f,pQ,hf,Nat.le_refl _⟩)
      have:=wf.inj i i2 b hl (tM k2) hb k1
      subst this
      exact hi hm
    rcases CR (c:=c) (c':=c') E7 lp hle i with ⟨i',a0,_,a1,a2,a3⟩|⟨a0,a1,a2,a3,a4⟩|⟨_,a0⟩
    · rcases CR (c:=c) (c':=c') E7 lp hle j with ⟨j',b0,_,b1,b2,b3⟩|⟨b0,b1,b2,b3,b4⟩|⟨_,b0⟩
      · rw[a1,DB]at hi; rw[b1,DB]at hj
        rw[a2]at h1; rw[b2]at h2
        rw[←a0,←b0,U2.inj i' j' b hi hj h1 h2]
      · rw[a1,DB]at hi; rw[b2]at hj
        rw[a2]at h1; rw[b3]at h2
        exact (key j i' b b0 hj h2 hi h1).elim
      · rw[b0]at hj; exact hj.elim
    · rcases CR (c:=c) (c':=c') E7 lp hle j with ⟨j',b0,_,b1,b2,b3⟩|⟨b0,b1,b2,b3,b4⟩|⟨_,b0⟩
      · rw[a2]at hi; rw[b1,DB]at hj
        rw[a3]at h1; rw[b2]at h2
        exact (key i j' b a0 hi h1 hj h2).elim
      · rw[a2]at hi; rw[b2]at hj
        rw[a3]at h1; rw[b3]at h2
        exact wf.inj i j b hi hj h1 h2
      · rw[b0]at hj; exact hj.elim
    · rw[a0]at hi; exact hi.elim
end

section
variable {tt:dO} {h:az} {R:Type}

theorem BO {t off:Nat} {cs:List V} {k0:V→Option R} {r:R} (hk:su tt t cs off k0=some r) :
    ∃v,k0 v=some r∧∀k:V→Option R,su tt t cs off k=k v:=by
  unfold su at hk
  split at hk
  · rename_i sv
    split at hk
    · rename_i Mb
      split at hk
      · rename_i qL
        exact ⟨_,hk,fun k=>by simp[su,sv,Mb,qL]⟩
      · cases hk
    · rename_i Mb
      split at hk
      · rename_i v hv
        exact ⟨_,hk,fun k=>by simp[su,sv,Mb,hv]⟩
      · cases hk
  · cases hk

theorem IH {op:BinOp} {x y:V} {k0:V→Option R} {r:R} (hk:yd op x y k0=some r) :
    ∃v,k0 v=some r∧∀k:V→Option R,yd op x y k=k v:=by
  unfold yd at hk
  split at hk
  · obtain ⟨hb,hk⟩:=cB hk
    exact ⟨_,hk,fun k=>by simp[yd,cU,hb]⟩
  · obtain ⟨hb,hk⟩:=cB hk
    exact ⟨_,hk,fun k=>by simp[yd,cU,hb]⟩
  · split at hk
    · rename_i ye
      subst ye
      split at hk <;> first
        | (exact ⟨_,hk,fun k=>by simp[yd]⟩)
        | (obtain ⟨hb,hk⟩:=cB hk; exact ⟨_,hk,fun k=>by simp only[yd,hb,cU,cond_true,if_true]⟩)
        | cases hk
    · cases hk
  · split at hk <;> first
        | (exact ⟨_,hk,fun k=>by simp[yd]⟩)
        | (obtain ⟨hb,hk⟩:=cB hk; exact ⟨_,hk,fun k=>by simp only[yd,hb,cU,cond_true]⟩)
        | cases hk
  · split at hk
    · exact ⟨_,hk,fun k=>by simp[yd, *]⟩
    · cases hk
  · split at hk
    · exact ⟨_,hk,fun k=>by simp[yd, *]⟩
    · cases hk
  · cases hk

theorem Yq {op:BinOp} {x y:V} {k0:V→Option R} {r:R} (hk:P3 op x y k0=some r) :
    ∃v,k0 v=some r∧∀k:V→Option R,P3 op x y k=k v:=by
  unfold P3 at hk
  split at hk
  · split at hk
    · exact ⟨_,hk,fun k=>by simp[P3, *]⟩
    · exact ⟨_,hk,fun k=>by simp[P3, *]⟩
    · cases hk
  · cases hk

theorem ifK_nat {op:BinOp} {o:Operand} {x y:V} {k0:V→Option R} {r:R} (hk:ifK op o x y k0=some r) :
    ∃v,k0 v=some r∧∀k:V→Option R,ifK op o x y k=k v:=by
  unfold ifK at hk
  split at hk <;> first|(exact ⟨_,hk,fun k=>by simp[ifK]⟩)|cases hk

theorem O5 {a:V} {neg:Bool} {k0:V→Option R} {r:R} (hk:EU a (fun r=>k0 (L2 neg r))=some r) :
    ∃v,k0 v=some r∧∀k:V→Option R,EU a (fun r=>k (L2 neg r))=k v:=by
  unfold EU at hk
  split at hk <;> try cases hk
  · exact ⟨_,hk,fun k=>by simp[EU]⟩
  · rename_i l _
    cases hl:l.isEmpty with
    | true=>rw[hl]at hk; exact ⟨_,hk,fun k=>by simp only[EU,hl]; rfl⟩
    | false=>rw[hl]at hk; exact ⟨_,hk,fun k=>by simp only[EU,hl]; rfl⟩
  · rename_i n
    cases hl:decide (n=0)with
    | true=>rw[hl]at hk; exact ⟨_,hk,fun k=>by simp only[EU,hl]; rfl⟩
    | false=>rw[hl]at hk; exact ⟨_,hk,fun k=>by simp only[EU,hl]; rfl⟩

theorem slK_nat {op:BinOp} {x y:V} {k0:V→Option R} {r:R} (hk:slK op x y k0=some r) :
    ∃v,k0 v=some r∧∀k:V→Option R,slK op x y k=k v:=by
  unfold slK at hk
  split at hk
  · split at hk
    · obtain ⟨v,h1,h2⟩:=O5 hk
      exact ⟨v,h1,fun k=>by simp[slK,h2]⟩
    · obtain ⟨v,h1,h2⟩:=O5 hk
      exact ⟨v,h1,fun k=>by simp[slK,h2]⟩
    · cases hk
  · cases hk

theorem DF {v:Option V} {d:Int} {k0:Int→Option R} {r:R} (hk:FC v d k0=some r) :
    ∃n,k0 n=some r∧∀k:Int→Option R,FC v d k=k n:=by
  unfold FC at hk
  split at hk
  · exact ⟨_,hk,fun k=>rfl⟩
  · exact ⟨_,hk,fun k=>rfl⟩
  · cases hk

theorem opP_nat {o:Op} {ρ:Operand→V} {k0:V→Option R} {r:R} (hk:opP tt o ρ k0=some r) :
    ∃v,k0 v=some r∧∀k:V→Option R,opP tt o ρ k=k v:=by
  cases o <;> simp only[opP]at hk ⊢ <;> try (first|cases hk)
  case move x=>exact ⟨_,hk,fun k=>rfl⟩
  case assign x=>exact ⟨_,hk,fun k=>rfl⟩
  case pick c a b =>
    split at hk
    · rename_i t ht
      split at hk
      · rename_i u v hu hv
        exact ⟨_,hk,fun k=>by simp[ht,hu,hv]⟩
      · rename_i u v hn
        refine ⟨bif t then ρ a else ρ b,by cases t <;> exact hk,fun k => ?_⟩
        cases t <;> rfl
    · cases hk
  case nilCheck x =>
    split at hk <;> first|(exact ⟨_,hk,fun k=>by simp[*]⟩)|cases hk
  case binOp op t x y _ =>
    split at hk
    · split at hk
      · obtain ⟨v,h1,h2⟩:=IH hk
        exact ⟨v,h1,fun k=>by simp[*]⟩
      · cases hk
    · split at hk
      · obtain ⟨v,h1,h2⟩:=IH hk
        exact ⟨v,h1,fun k=>by simp[*]⟩
      · cases hk
    · obtain ⟨v,h1,h2⟩:=IH hk
      exact ⟨v,h1,fun k=>by simp[*]⟩
    · obtain ⟨v,h1,h2⟩:=IH hk
      exact ⟨v,h1,fun k=>by simp[*]⟩
    · rename_i n1 n2 n3 n4
      split at hk
      · rename_i hd
        obtain ⟨v,h1,h2⟩:=Yq hk
        exact ⟨v,h1,fun k=>by simp[*]⟩
      · rename_i hd
        obtain ⟨v,h1,h2⟩:=slK_nat hk
        exact ⟨v,h1,fun k=>by simp[*]⟩
      · rename_i hd
        obtain ⟨v,h1,h2⟩:=ifK_nat hk
        exact ⟨v,h1,fun k=>by simp[*]⟩
      · cases hk
  case unOp op _ x =>
    split at hk <;> first|(exact ⟨_,hk,fun k=>by simp[*]⟩)|cases hk
  case makeInterface t x =>
    split at hk <;> first|(exact ⟨_,hk,fun k=>by simp[*]⟩)|cases hk
  case convert s d x =>
    split at hk
    · cases hk
    · split at hk
      · exact ⟨_,hk,fun k=>by simp[*]⟩
      · split at hk
        · exact ⟨_,hk,fun k=>by simp[*]⟩
        · cases hk
      · cases hk
  case fieldAddr s x f =>
    split at hk <;> try (first|cases hk)
    split at hk <;> try (first|cases hk)
    split at hk <;> try (first|cases hk)
    split at hk <;> first|(exact ⟨_,hk,fun k=>by simp_all⟩)|cases hk
  case field s x f =>
    split at hk <;> try (first|cases hk)
    split at hk <;> try (first|cases hk)
    obtain ⟨v,h1,h2⟩:=BO hk
    exact ⟨v,h1,fun k=>by simp[*]⟩
  case indexAddr t x i =>
    unfold idxOf at hk ⊢
    split at hk <;> try (first|cases hk)
    split at hk <;> try (first|cases hk)
    · split at hk <;> try (first|cases hk)
      obtain ⟨hb,hk⟩:=cB hk
      exact ⟨_,hk,fun k=>by simp_all [cU]⟩
    · split at hk <;> try (first|cases hk)
      obtain ⟨hb,hk⟩:=cB hk
      exact ⟨_,hk,fun k=>by simp_all [cU]⟩
    · split at hk <;> try (first|cases hk)
      obtain ⟨hb,hk⟩:=cB hk
      exact ⟨_,hk,fun k=>by simp_all [cU]⟩
  case index t x i =>
    unfold idxOf at hk ⊢
    split at hk <;> try (first|cases hk)
    split at hk <;> try (first|cases hk)
    · obtain ⟨hb,hk⟩:=cB hk
      exact ⟨_,hk,fun k=>by simp_all [cU]⟩
    · obtain ⟨hb,hk⟩:=cB hk
      obtain ⟨v,h1,h2⟩:=BO hk
      exact ⟨v,h1,fun k=>by simp_all [cU]⟩
  case slice t x lo hi mx =>
    split at hk <;> try (first|cases hk)
    split at hk <;> try (first|cases hk)
    · rename_i hd hx
      obtain ⟨n,hk,e1⟩:=DF hk
      obtain ⟨m,hk,e2⟩:=DF hk
      obtain ⟨hb,hk⟩:=cB hk
      obtain ⟨Oa,hk⟩:=cB hk
      exact ⟨_,hk,fun k=>by simp only[hd,hx,e1,e2,hb,Oa,cU,cond_true]⟩
    · rename_i hd hx
      split at hk <;> try (first|cases hk)
      rename_i hc
      obtain ⟨n,hk,e1⟩:=DF hk
      split at hk
      · obtain ⟨hb,hk⟩:=cB hk
        exact ⟨_,hk,fun k=>by simp only[hd,hx,hc,e1,hb,cU,cond_true,if_true]⟩
      · obtain ⟨m,hk,e2⟩:=DF hk
        obtain ⟨hb,hk⟩:=cB hk
        obtain ⟨Oa,hk⟩:=cB hk
        exact ⟨_,hk,fun k=>by simp only[hd,hx,hc,e1,e2,hb,Oa,cU,cond_true,if_true]⟩
    · rename_i hd hx
      split at hk <;> try (first|cases hk)
      rename_i hc
      obtain ⟨n,hk,e1⟩:=DF hk
      obtain ⟨m,hk,e2⟩:=DF hk
      obtain ⟨hb,hk⟩:=cB hk
      exact ⟨_,hk,fun k=>by rw[if_neg hc]; simp only[e1,e2,hb,cU,cond_true]⟩
  case makeFunc f first cap =>
    cases f <;> simp only at hk ⊢ <;> first|(exact ⟨_,hk,fun k=>rfl⟩)|cases hk
  case extract t i =>
    split at hk <;> try (first|cases hk)
    split at hk <;> try (first|cases hk)
    exact ⟨_,hk,fun k=>by simp[*]⟩
  case build t parts =>
    split at hk <;> try (first|cases hk)
    all_goals
      rename_i hd
      split at hk <;> try (first|cases hk)
      rename_i hc
      split at hk <;> try (first|cases hk)
      rename_i hf
      exact ⟨_,hk,fun k=>by rw[if_neg hc]⟩
  case call c =>
    split at hk <;> try (first|cases hk)
    · split at hk <;> try (first|cases hk)
      split at hk <;> try (first|cases hk)
      all_goals exact ⟨_,hk,fun k=>by simp[*]⟩
    · split at hk <;> try (first|cases hk)
      split at hk <;> try (first|cases hk)
      exact ⟨_,hk,fun k=>by simp[*]⟩
    · split at hk <;> try (first|cases hk)
      split at hk <;> try (first|cases hk)
      exact ⟨_,hk,fun k=>by simp[*]⟩

def ca.rd:ca→ca
  | .tok | .dead => .free
  | ob=>ob
theorem RP {a b:ca} (h:a.rd=b.rd):a=b∨((a = .tok∨a = .dead∨a = .free)∧(b = .tok∨b = .dead∨b = .free)):=by
  cases a <;> cases b <;> simp[ca.rd]at h ⊢ <;> exact h
theorem Yr {a b:ca} (h:a.rd=b.rd) {cs:List V} (hb:b = .cells cs):a = .cells cs:=by
  rcases RP h with h|⟨_,h⟩
  · rw[h,hb]
  · rw[hb]at h; simp at h
theorem rd_bld {a b:ca} (h:a.rd=b.rd) {v:V} (hb:b = .kW v):a = .kW v:=by
  rcases RP h with h|⟨_,h⟩
  · rw[h,hb]
  · rw[hb]at h; simp at h
theorem Ys {a b:ca} (h:a.rd=b.rd) {T:Ty} {l:List T.den} (hb:b = .row T l):a = .row T l:=by
  rcases RP h with h|⟨_,h⟩
  · rw[h,hb]
  · rw[hb]at h; simp at h

theorem rd_amap {a b:ca} (h:a.rd=b.rd) {K T:Ty} {l:List (K.den × T.den)} (hb:b = .vL K T l):a = .vL K T l:=by
  rcases RP h with h|⟨_,h⟩
  · rw[h,hb]
  · rw[hb]at h; simp at h

theorem opR_nat {o:Op} {ρ:Operand→V} {lim:Option Nat} {k0:V→Option R} {r:R} (hk:VQ tt o ρ h lim k0=some r) :
    ∃v,k0 v=some r∧∀(h2:az),(∀i,EV lim i=true→(h2.at i).rd=(h.at i).rd)→∀k:V→Option R,VQ tt o ρ h2 lim k=k v:=by
  cases o <;> simp only[VQ]at hk ⊢ <;> try (first|cases hk)
  case load t x =>
    split at hk <;> try (first|cases hk)
    · split at hk <;> try (first|cases hk)
      rename_i hl
      split at hk <;> try (first|cases hk)
      all_goals rename_i hc
      · obtain ⟨v,h1,h2⟩:=BO hk
        exact ⟨v,h1,fun hh e k=>by have e':=Yr (e _ hl) hc; clear e; simp only[*,if_true]⟩
      · obtain ⟨v,h1,h2⟩:=BO hk
        exact ⟨v,h1,fun hh e k=>by have e':=rd_bld (e _ hl) hc; clear e; simp only[*,if_true]⟩
    · obtain ⟨v,h1,h2⟩:=BO hk
      exact ⟨v,h1,fun hh e k=>by simp only[*]⟩
    · split at hk <;> try (first|cases hk)
      rename_i hl
      split at hk <;> try (first|cases hk)
      rename_i T l hc
      split at hk <;> try (first|cases hk)
      rename_i hs
      obtain ⟨hb,hk⟩:=cB hk
      obtain ⟨v,h1,h2⟩:=BO hk
      exact ⟨v,h1,fun hh e k=>by have e':=Ys (e _ hl) hc; clear e; simp only[*,if_true,cU,cond_true]⟩
  case lookup t x ix ok =>
    split at hk <;> try (first|cases hk)
    rename_i kt vt i h1 h2
    split at hk <;> try (first|cases hk)
    rename_i hl
    split at hk <;> try (first|cases hk)
    rename_i K T l hc
    split at hk <;> try (first|cases hk)
    rename_i hf
    split at hk <;> try (first|cases hk)
    rename_i kx hx
    refine ⟨bif ok then .tuple [N9 T (nJ K T kx l), .bool (D4 K T kx l)]else N9 T (nJ K T kx l),by cases ok <;> exact hk,fun hh e k => ?_⟩
    have e':=rd_amap (e _ hl) hc
    clear e
    simp only[h1,h2,hl,e',hf,hx,if_true]
    cases ok <;> rfl
  case convert s d x =>
    split at hk <;> try (first|cases hk)
    · rename_i e i n h1 h2 h3
      split at hk <;> try (first|cases hk)
      rename_i hl
      split at hk <;> try (first|cases hk)
      rename_i h4 h5
      exact ⟨_,hk,fun hh e k=>by have e':=Ys (e _ hl) h5; clear e; simp only[*,if_true]⟩
    · rename_i h1 h2 h3
      split at hk <;> try (first|cases hk)
      · rename_i h4
        exact ⟨_,hk,fun hh e k=>by simp only[*]⟩
      · rename_i h4
        obtain ⟨hb,hk⟩:=cB hk
        exact ⟨_,hk,fun hh e k=>by simp only[*,cU,cond_true]⟩
    · rename_i h1 h2 h3
      split at hk <;> try (first|cases hk)
      rename_i h4
      exact ⟨_,hk,fun hh e k=>by simp only[*]⟩

theorem opA_nat {o:Op} {ρ:Operand→V} {k0:ca→(Nat→V)→Option R} {r:R} (hk:XL tt o ρ k0=some r) :
    ∃ob mk,k0 ob mk=some r∧∀k:ca→(Nat→V)→Option R,XL tt o ρ k=k ob mk:=by
  cases o <;> simp only[XL]at hk ⊢ <;> try (first|cases hk)
  case alloc t =>
    split at hk
    · exact ⟨_,_,hk,fun k=>by simp[*]⟩
    · split at hk <;> try (first|cases hk)
      exact ⟨_,_,hk,fun k=>by simp[*]⟩
  case box t x =>
    split at hk <;> try (first|cases hk)
    split at hk <;> try (first|cases hk)
    exact ⟨_,_,hk,fun k=>by simp only[*,if_true]⟩
  case buildSlice t len parts =>
    split at hk <;> try (first|cases hk)
    split at hk <;> try (first|cases hk)
    rename_i hc
    split at hk <;> try (first|cases hk)
    · rename_i h1 h2
      split at hk <;> try (first|cases hk)
      rename_i h3
      split at hk
      · exact ⟨_,_,hk,fun k=>by simp only[*,if_true,if_false]; rfl⟩
      split at hk
      · exact ⟨_,_,hk,fun k=>by simp only[*,if_true,if_false]; rfl⟩
      · exact ⟨_,_,hk,fun k=>by simp only[*,if_true,if_false]; rfl⟩
    · exact ⟨_,_,hk,fun k=>by simp only[*,if_true,if_false]; rfl⟩
  case makeSlice t n c =>
    split at hk <;> try (first|cases hk)
    split at hk <;> try (first|cases hk)
    split at hk <;> try (first|cases hk)
    split at hk <;> try (first|cases hk)
    rename_i h3
    obtain ⟨hb,hk⟩:=cB hk
    exact ⟨_,_,hk,fun k=>by simp only[*,if_true,cU,cond_true]⟩
  case convert s d x =>
    split at hk <;> try (first|cases hk)
    split at hk <;> try (first|cases hk)
    exact ⟨_,_,hk,fun k=>by simp[*]⟩
  case range t x =>
    split at hk <;> try (first|cases hk)
    exact ⟨_,_,hk,fun k=>by simp[*]⟩
  case makeMap t rsv =>
    split at hk <;> try (first|cases hk)
    rename_i h1
    split at hk <;> try (first|cases hk)
    rename_i kt vt h2
    split at hk <;> try (first|cases hk)
    rename_i K V' h3 h4
    split at hk <;> try (first|cases hk)
    rename_i h5
    exact ⟨_,_,hk,fun k=>by simp only[h1,h2,h3,h4,h5,if_true]⟩

theorem mapF {β:Type} {ρ ρ':Operand→V} (f:Nat→V→β) (ps:List (Nat × Operand)) (h:∀x∈ps.map (·.2),ρ x=ρ' x) :
    (ps.map fun (i,x)=>f i (ρ x))=(ps.map fun (i,x)=>f i (ρ' x)) :=
  List.map_congr_left fun p hm=>by
    obtain ⟨i,x⟩:=p
    simp only[h x (List.mem_map.2 ⟨(i,x),hm,rfl⟩)]

theorem O6 {o:Op} {ρ ρ':Operand→V} (h:∀x∈o.operands,ρ x=ρ' x) {k:V→Option R}:opP tt o ρ k=opP tt o ρ' k:=by
  cases o <;> simp only[Op.operands]at h <;> simp only[opP]
  case build t ps =>
    have hp:∀x∈ps.toList.map (·.2),ρ x=ρ' x:=fun x hx=>h x (by simpa using hx)
    split
    · rename_i fs hd
      rw[mapF (fun i v=>((fs.getD i (0,0)).1,if i<fs.length then (tt.at (fs.getD i (0,0)).2).size else 1000000,v)) ps.toList hp]
    · rename_i e hd
      rw[mapF (fun i v=>(i*(tt.at e).size,(tt.at e).size,v)) ps.toList hp]
    · rfl
  case makeFunc f first cap =>
    cases f <;> simp only
    rw[List.map_congr_left (l:=first.toList) (g:=ρ') fun x hx=>h x (by simp at hx ⊢; exact .inl hx),List.map_congr_left (l:=cap.toList) (g:=ρ') fun x hx=>h x (by simp at hx ⊢; exact .inr hx)]
  case slice t x lo hi mx=>cases lo <;> cases hi <;> cases mx <;> simp_all
  case call c =>
    obtain ⟨callee,args,argTypes⟩:=c
    have ha:∀x∈args.toList,ρ x=ρ' x:=fun x hx=>h x (by simp[Call.operands]at hx ⊢; exact .inr hx)
    simp only
    split
    · rename_i x e; rw[ha x (by rw[e]; simp)]
    · rename_i x y e; rw[ha x (by rw[e]; simp),ha y (by rw[e]; simp)]
    · rename_i x y e; rw[ha x (by rw[e]; simp),ha y (by rw[e]; simp)]
    · rfl
  all_goals (first|rfl|(simp_all; done))

theorem O7 {o:Op} {ρ ρ':Operand→V} (h':∀x∈o.operands,ρ x=ρ' x) {lim:Option Nat} {k:V→Option R}:VQ tt o ρ h lim k=VQ tt o ρ' h lim k:=by
  cases o <;> simp only[Op.operands]at h' <;> simp only[VQ]
  all_goals (first|rfl|(simp_all; done))

theorem O8 {o:Op} {ρ ρ':Operand→V} (h':∀x∈o.operands,ρ x=ρ' x) {k:ca→(Nat→V)→Option R}:XL tt o ρ k=XL tt o ρ' k:=by
  cases o <;> simp only[Op.operands]at h' <;> simp only[XL]
  case makeMap t rsv =>
    have e:Du ρ rsv=Du ρ' rsv:=by
      cases rsv with
      | none=>rfl
      | some x=>simp only[Du]; rw[h' x (by simp)]
    rw[e]
  case buildSlice t len ps =>
    have hp:∀x∈ps.toList.map (·.2),ρ x=ρ' x:=fun x hx=>h' x (by simpa using hx)
    split
    · rename_i e hd
      rw[mapF (fun i v=>(i*(tt.at e).size,(tt.at e).size,v)) ps.toList hp]
    · rfl
  all_goals (first|rfl|(simp_all; done))

theorem O9 {o:Op} {ρ ρ':Operand→V} (h':∀x∈o.operands,ρ x=ρ' x) {id:Nat} {k:V→az→Option R}:Lz tt o ρ h id k=Lz tt o ρ' h id k:=by
  cases o <;> simp only[Op.operands]at h' <;> simp only[Lz]
  case call c =>
    obtain ⟨callee,args,argTypes⟩:=c
    have ha:∀x∈args.toList,ρ x=ρ' x:=fun x hx=>h' x (by simp[Call.operands]at hx ⊢; exact .inr hx)
    simp only
    split
    · rename_i x y t xt e et; rw[ha x (by rw[e]; simp),ha y (by rw[e]; simp)]
    · rfl
  all_goals (first|rfl|(simp_all; done))
end

section
variable {P:Program} {tt:dO} {w w':World} {h h':az} {c c':kA} {R:Type}

theorem A1:∀(l:List Nat) (h:az),Ext w h c w (oo h l) c
  | [],h => .refl _ _ _
  | i::l,h=>by
    simp only[oo]
    split
    · exact (FI i).trans (A1 l _)
    · exact A1 l h

theorem CS:∀(l:List Nat) (h:az),WF w h c→WF w (oo h l) c
  | [],h,wf=>wf
  | i::l,h,wf=>by
    simp only[oo]
    split
    · exact CS l _ (Qd wf i)
    · exact CS l h wf

theorem zQ:∀(l:List Nat) (h:az) (j:Nat),az.at (oo h l) j=h.at j∨az.at (oo h l) j = .dead
  | [],h,j => .inl rfl
  | i::l,h,j=>by
    simp only[oo]
    split
    · rcases zQ l (h.set i .dead) j with e|e
      · rw[e,nK]
        split
        · exact .inr rfl
        · exact .inl rfl
      · exact .inr e
    · exact zQ l h j

theorem FJ:∀(l:List Nat) (h:az) (j:Nat) {T:Ty} {m:List T.den},j∈l→h.at j = .row T m→az.at (oo h l) j = .dead
  | [],_,_,_,_,hj,_=>by cases hj
  | i::l,h,j,T,m,hj,he=>by
    simp only[oo]
    by_cases ye:i=j
    · subst ye
      split
      · rcases zQ l (h.set i .dead) i with e|e
        · rw[e]; exact nq _ (az.gM he (by simp))
        · exact e
      · rename_i hn; exact (hn T m he).elim
    · have OX:j∈l:=by
        rcases List.mem_cons.1 hj with rfl|h
        · exact (ye rfl).elim
        · exact h
      split
      · exact FJ l _ j OX (by rw[de _ ye]; exact he)
      · exact FJ l h j OX he

theorem II (h:az):∀l:List V,V.Kz h l=l.map (V.shut h)
  | []=>rfl
  | v::l=>by simp only[V.Kz,List.map_cons,II h l]

theorem uo.dead {ids:List Nat} {b x:Nat} (ho:uo (oo h ids) c b x):uo h c b x:=by
  obtain ⟨i,f,g1,g2,g3⟩:=ho
  rcases zQ ids h i with e|e
  · exact ⟨i,f,g1,e▸g2,g3⟩
  · rw[e]at g2; cases g2

theorem Yt (wf:WF w h c) {ids:List Nat} {v:V} {d:Value} (r:dK w h c v d):(∀i∈v.ids,i∈ids)→dK w (oo h ids) c (v.shut h) d:=by
  have x:=A1 (w:=w) (c:=c) ids h
  induction r with
  | sl f me s7 hc hr yv nk=>exact fun _=>(dK.sl (t := .no) f me s7 hc hr (by simp) (by simp)).mono x
  | @row i n v hi hn hv =>
    intro Mx
    simp only[V.shut]
    split
    · rename_i T l he
      obtain ⟨A,cap,rfl,hA,hv⟩:=hv
      obtain ⟨Oq,hle,s7,hor⟩:=hv T l he
      obtain ⟨ds,rds,yr⟩:=Qe wf he
      subst Oq
      refine CO (rds.mono x) hle s7 (fun hl => ?_) (by simp) (by simp)
      obtain ⟨b,hb,Cs⟩:=yr hl
      rcases hor with ⟨h1,_⟩|⟨b',arr,e,fz,h1,h2,h3,h4⟩
      · rw[hb]at h1; cases h1
      · rw[hb]at h1; cases h1
        refine ⟨b,c.off i,h2,Cs,fun y hy1 hy2 => ?_⟩
        have nk:uo h c b y:=⟨i,0,hb,by rw[he]; rfl,Nat.zero_le _⟩
        refine ⟨fun ho => ?_,wf.yw b y nk⟩
        obtain ⟨j,f,g1,g2,g3⟩:=ho
        have hdead:=FJ ids h i (Mx i (by simp[V.ids])) he
        rcases zQ ids h j with e'|e'
        · have hlj:(h.at j).live:=by rw[e']at g2; exact tM g2
          have:=wf.inj i j b (by rw[he]; trivial) hlj hb g1
          subst this
          rw[hdead]at g2
          cases g2
        · rw[e']at g2; cases g2
    · exact .undef _
  | @agg cs y hl _ ih =>
    intro Mx
    simp only[V.shut,II]
    refine .agg (by simpa using hl) fun j v d hv hd => ?_
    rw[List.getElem?_map]at hv
    cases e:cs[j]? with
    | none=>rw[e]at hv; cases hv
    | some u =>
      rw[e]at hv; simp at hv; subst hv
      exact ih j u d e hd fun i hi=>Mx i (by simp only[V.ids]; exact rO.2 ⟨j,u,e,hi⟩)
  | @tuple cs y hl _ ih =>
    intro Mx
    simp only[V.shut,II]
    refine .tuple (by simpa using hl) fun j v d hv hd => ?_
    rw[List.getElem?_map]at hv
    cases e:cs[j]? with
    | none=>rw[e]at hv; cases hv
    | some u =>
      rw[e]at hv; simp at hv; subst hv
      exact ih j u d e hd fun i hi=>Mx i (by simp only[V.ids]; exact rO.2 ⟨j,u,e,hi⟩)
  | undef v=>exact fun _ => .undef _
  | int hn=>exact fun _ => .int hn
  | bool b=>exact fun _ => .bool b
  | str hl=>exact fun _ => .str hl
  | eQ=>exact fun _ => .eQ
  | cJ=>exact fun _ => .cJ
  | aV=>exact fun _ => .aV
  | oN=>exact fun _ => .oN
  | cX=>exact fun _ => .cX
  | iface t v=>exact fun _ => .iface t v
  | FA hn=>exact fun _ => .FA hn
  | Ds hi hn hv=>exact fun _=>(dK.Ds hi hn hv).mono x
  | GK b=>exact fun _ => .GK b
  | ptr hi hv=>exact fun _=>(dK.ptr hi hv).mono x
  | map hi hv=>exact fun _=>(dK.map hi hv).mono x
  | tJ hi hv=>exact fun _=>(dK.tJ hi hv).mono x
  | yc f hc hr _=>exact fun _=>(dK.yc f hc hr).mono x
  | N8 hn s7 f hc hr _=>exact fun _=>(dK.N8 hn s7 f hc hr).mono x
  | func ha hb hra hrb _ _=>exact fun _=>(dK.func ha hb hra hrb).mono x

theorem Pa (wf:WF w h c) {vs:List V} {ds:List Value} (r:cK w h c vs ds):cK w (oo h (V.s6 vs)) c (V.Kz h vs) ds:=by
  rw[II]
  refine ⟨by simpa using r.1,fun j v d hv hd => ?_⟩
  rw[List.getElem?_map]at hv
  cases e:vs[j]? with
  | none=>rw[e]at hv; cases hv
  | some u =>
    rw[e]at hv; simp at hv; subst hv
    exact Yt wf (r.2 j u d e hd) fun i hi=>rO.2 ⟨j,u,e,hi⟩

theorem Pb {t:Nat} {v:V} {d:Value} (r:dK w h c v d):dK w h c (canon tt t v) d:=by
  unfold canon
  split
  · rename_i T hT
    split
    · rename_i cs
      split
      · rename_i x hx
        split
        · cases r with
          | @agg _ y hl hr =>
            have rl:cK w h c cs y.toList:=⟨by simpa using hl,fun j v d hv hd=>hr j v d hv (by simpa using hd)⟩
            have:=Gu hx rl
            exact .agg (by simpa using this.1) fun j v d hv hd=>this.2 j v d hv (by simpa using hd)
        · exact r
      · exact r
    · split
      · rename_i x hx
        split
        · exact r
        · have:=Gu hx (cK.cons r cK.nil)
          split
          · rename_i e he
            rw[he]at this
            exact this.head
          · exact r
      · exact r
  · split
    · split
      · split
        · rename_i l hl; exact Ml r hl
        · exact r
      · exact r
    · exact r

theorem My:∀(ts:List Nat) {vs:List V} {ds:List Value},cK w h c vs ds→cK w h c (Hx tt ts vs) ds
  | [],vs,ds,r=>by simpa [Hx]using r
  | t::ts, [],ds,r=>by simpa [Hx]using r
  | t::ts,v::vs, [],r=>by have:=r.1; simp at this
  | t::ts,v::vs,d::ds,r => .cons (Pb r.head) (My ts r.tail)

theorem JV {v:V} {d:Value} (hs:v.OU=true) (r:dK w h c v d):dK w' h' c' v d:=by
  cases r <;> simp only[V.OU]at hs <;> try (first|cases hs)
  case int hn=>exact .int hn
  case bool b=>exact .bool b
  case str hl=>exact .str hl
  case eQ=>exact .eQ
  case cJ=>exact .cJ
  case aV=>exact .aV
  case oN=>exact .oN
  case cX=>exact .cX
  case iface t v=>exact .iface t v
  case FA hn=>exact .FA hn

theorem Yu {v:V} {d:Value} (hs:v.VR=true) (r:dK w h c v d):dK w' h' c' v d:=by
  cases r
  case agg hl hr =>
    simp only[V.VR,List.all_eq_true]at hs
    exact .agg hl fun j v d hv hd=>JV (hs v (List.mem_of_getElem? hv)) (hr j v d hv hd)
  case tuple hl hr =>
    simp only[V.VR,List.all_eq_true]at hs
    exact .tuple hl fun j v d hv hd=>JV (hs v (List.mem_of_getElem? hv)) (hr j v d hv hd)
  all_goals first
    | exact JV (w:=w) (h:=h) (c:=c) hs (by constructor <;> assumption)
    | (simp only[V.VR,V.OU]at hs; cases hs)

theorem WB {c1 c2:kA} (wf:WF w h c) (x:Ext w [] c1 w' h' c2):Ext w h c w' h c∧WF w' h c:=by
  have nown:∀b y, ¬uo ([]:az) c1 b y:=fun b y ho=>by
    obtain ⟨i,f,_,g2,_⟩:=ho
    simp[az.at,ca.from_]at g2
  have hx:Ext w h c w' h c := {
    os:=x.os
    tape:=x.tape
    output:=x.output
    size:=x.size
    used:=fun _ hi=>hi
    same:=fun i hi hd=>⟨by have h2:=hi.2; revert hd h2; cases h.at i <;> simp[ca.iQ],rfl,rfl⟩
    cell:=fun b y hb _=>x.cell b y hb (nown b y)
    block:=fun b hb _=>x.block b hb (nown b)
    wK:=fun _ _ _ ho=>ho
    ext:=rfl
    arr:=x.arr }
  refine ⟨hx,?_,fun b y hb=>Nat.lt_of_lt_of_le (wf.pP b y hb) x.size,fun i hi => ?_,wf.inj,wf.sA hx⟩
  · exact wf.yw
  · by_cases hl:(h.at i).live
    · exact (wf.obj i hi).keep hx (fun b hb=>x.block b ((wf.obj i hi).lt hl hb) (nown b)) rfl rfl
    · have h0:h.at i = .free∨h.at i = .dead:=by revert hl; cases h.at i <;> simp[ca.live]
      rcases h0 with h0|h0 <;> rw[h0] <;> trivial
end

section
variable {P:Program} {tt:dO} {w w':World} {h h':az} {c c':kA} {R:Type}

def w9 (P:Program) (g:Nat) (args:Array Value) (w:World) (Q:Value→World→Prop):Prop :=
  ∃nx w1,(callFunc g args).run P w = .ok nx w1 ∧
    match nx with
    | .value d=>Q d w1
    | .enter f xs=>Calls P f xs w1 fun e w'=>∃d,e = .returned d∧Q d w'
    | .row row xs=>Rows P row xs w1 Q
    | _=>False

theorem w9.mono {g:Nat} {args:Array Value} {Q Q':Value→World→Prop} (h:w9 P g args w Q) (hq:∀d w',Q d w'→Q' d w'):w9 P g args w Q':=by
  obtain ⟨nx,w1,h1,h2⟩:=h
  refine ⟨nx,w1,h1,?_⟩
  cases nx <;> simp only at h2 ⊢
  · exact hq _ _ h2
  · exact Calls.mono h2 fun e w' ⟨d,e1,q⟩=>⟨d,e1,hq _ _ q⟩
  · exact Rows.mono h2 fun d w' q=>hq _ _ q

def Spec.Ok (P:Program) (g:Nat) (sp:Spec R):Prop :=
  ∀vs h k r,sp vs h k=some r→∀(w:World) (c:kA) (args:Array Value),WF w h c→cK w h c vs args.toList →
    w9 P g args w fun d w'=>∃v h' c',WF w' h' c'∧Ext w h c w' h' c'∧dK w' h' c' v d∧k v h'=some r

def Spec.Yv (P:Program) (g m:Nat) (sp:Spec R):Prop :=
  ∀vs h k r,h.length=m→sp vs h k=some r→∀(w:World) (c:kA) (args:Array Value),WF w h c→cK w h c vs args.toList →
    w9 P g args w fun d w'=>∃v h' c',WF w' h' c'∧Ext w h c w' h' c'∧dK w' h' c' v d∧k v h'=some r

def IJ (sp:Spec R):Prop:=∀vs h k k',(∀v,k v h=k' v h)→sp vs h k=sp vs h k'

def p6 (P:Program) (E:Env R):Prop:=∀g b sp,E g=some (b,sp)→Spec.Ok P g sp∧(b=false→oZ.soft g=true→IJ sp)

theorem IJ.same {sp:Spec R} (hs:IJ sp) {vs:List V} {k:V→az→Option R} {r:R} (hk:sp vs h k=some r):∃k',sp vs h k'=some r∧∀v h',k' v h'=some r→h'=h∧k v h=some r:=by
  classical
  refine ⟨fun v h'=>if h'=h then k v h else none,?_,fun v h' e => ?_⟩
  · rw[←hk]
    exact hs _ _ _ _ fun v=>by simp
  · simp only at e
    split at e
    · exact ⟨‹_›,e⟩
    · cases e

theorem Spec.Yv.of_body {g m:Nat} {sp:Spec R} {fn:Func} (hf:P.funcs[g]? = some fn) (hn:(fn.name == "runtime.NumGoroutine")=false) (hb:fn.body.isNone=false)
    (hs:∀vs h k r,h.length=m→sp vs h k=some r→∀(w:World) (c:kA) (args:Array Value),WF w h c→cK w h c vs args.toList →
      Calls P g args w fun e w'=>∃d,e = .returned d∧∃v h' c',WF w' h' c'∧Ext w h c w' h' c'∧dK w' h' c' v d∧k v h'=some r):Spec.Yv P g m sp:=by
  intro vs h k r hml hk w c args wf ra
  refine ⟨.enter g args,w,?_,hs vs h k r hml hk w c args wf ra⟩
  have Q1:fn.name ≠ "runtime.NumGoroutine" :=by simpa using hn
  have pQ:fn.body≠none:=fun e=>by rw[e]at hb; cases hb
  simp[callFunc,hf,Q1,pQ]

theorem RQ:∀ {v:V},v.ids = []→∀ρ,v.pZ ρ=v:=by
  have key:(∀v:V,v.ids = []→∀ρ,v.pZ ρ=v)∧∀l:List V,V.s6 l = []→∀ρ,V.yt ρ l=l:=by
    refine ⟨fun v => ?_,fun l => ?_⟩
    · refine V.rec (motive_1:=fun v=>v.ids = []→∀ρ,v.pZ ρ=v) (motive_2:=fun l=>V.s6 l = []→∀ρ,V.yt ρ l=l) ?_ ?_ ?_ ?_ ?_ ?_ ?_ ?_ ?_ ?_ ?_ ?_ ?_ ?_ ?_ ?_ ?_ ?_ ?_ ?_ ?_ ?_ ?_ ?_ ?_ v <;> first
        | (intros; rfl)
        | (intros; simp_all [V.ids,V.s6,V.pZ,V.yt]; done)
        | skip
      · intro T l t ht ρ
        cases t <;> simp_all [V.ids,V.pZ,Tok.pZ]
    · refine V.rec_1 (motive_1:=fun v=>v.ids = []→∀ρ,v.pZ ρ=v) (motive_2:=fun l=>V.s6 l = []→∀ρ,V.yt ρ l=l) ?_ ?_ ?_ ?_ ?_ ?_ ?_ ?_ ?_ ?_ ?_ ?_ ?_ ?_ ?_ ?_ ?_ ?_ ?_ ?_ ?_ ?_ ?_ ?_ ?_ l <;> first
        | (intros; rfl)
        | (intros; simp_all [V.ids,V.s6,V.pZ,V.yt]; done)
        | skip
      · intro T l t ht ρ
        cases t <;> simp_all [V.ids,V.pZ,Tok.pZ]
  exact fun {v} hv ρ=>key.1 v hv ρ

theorem Mz (h:az):h.back [] []=h:=by simp[az.back,az.Ao]

def uc (al:Bool) (id:Nat) (h h':az):Prop:=h.length≤h'.length∧∀j,(al=true→j≠id)→j<h.length→h.at j = .free→h'.at j = .free

theorem TH {ord:List Nat} (E7:ord.Nodup) (hu:∀i∈ord,Used h i) (hle:ord.length≤h'.length):uc false 0 h (h.back ord h'):=by
  refine ⟨by simp[az.back,fW],fun j _ hj hf => ?_⟩
  have hn:j∉ord:=fun hm=>(hu j hm).2 hf
  rcases CR (c:=⟨fun _=>none,fun _=>0,⟨fun _ _=>False⟩⟩) (c':=⟨fun _=>none,fun _=>0,⟨fun _ _=>False⟩⟩) E7 (fun i hi=>(hu i hi).1) hle j with ⟨i,h1,h2,_⟩|⟨_,_,h3,_⟩|⟨h1,_⟩
  · unfold pD at h1
    split at h1
    · rename_i hi
      simp only[List.getD,List.getElem?_eq_getElem hi,Option.getD_some]at h1
      exact (hn (h1▸List.getElem_mem hi)).elim
    · omega
  · rw[h3]; exact hf
  · simp[az.back,fW]at h1; omega

theorem TJ {st:List V} {a:Act} (r:cK w h c st a.tmps.toList) (x:Operand):dK w h c (ev st x) (a.eval x):=by
  cases x with
  | tmp t =>
    have:=r.getD t undef
    simpa [ev,Act.eval,List.getD,Array.getD_eq_getD_getElem?]using this
  | const v=>exact KB v
  | global g=>exact .undef _
  | func f=>exact .func rfl rfl (by simp) (by simp)

theorem Qk {v:V} {d:Value} (r:dK w h c v d):dK w h c (L3 v) d:=by
  cases r with
  | sl f me s7 hc hr yv nk=>exact .sl f me s7 hc hr (by simp) (by simp)
  | _=>simp only[L3]; constructor <;> assumption

theorem KE {v:V} {d:Value} (r:dK w h c v d):dK w h c (D5 v) d:=by
  cases r with
  | sl f me s7 hc hr yv nk=>exact .sl f me s7 hc hr (by simp) (by simp)
  | @agg cs x hl hr =>
    refine .agg (by simpa using hl) fun j v d hv hd => ?_
    rw[List.getElem?_map]at hv
    cases e:cs[j]? with
    | none=>rw[e]at hv; cases hv
    | some u=>rw[e]at hv; simp at hv; subst hv; exact Qk (hr j u d e hd)
  | _=>simp only[D5]; constructor <;> assumption

theorem Ql {vs:List V} {ds:List Value} (r:cK w h c vs ds):cK w h c (vs.map D5) ds:=by
  refine ⟨by simpa using r.1,fun j v d hv hd => ?_⟩
  rw[List.getElem?_map]at hv
  cases e:vs[j]? with
  | none=>rw[e]at hv; cases hv
  | some u=>rw[e]at hv; simp at hv; subst hv; exact KE (r.2 j u d e hd)

theorem Pc {vs:List V} (h:V.s6 vs = []) (ρ:Nat→Option Nat):V.yt ρ vs=vs:=by
  have:∀v∈vs,v.pZ ρ=v:=fun v hv=>by
    refine RQ ?_ _
    cases hi:v.ids with
    | nil=>rfl
    | cons i l =>
      obtain ⟨j,hj⟩:=List.mem_iff_getElem?.1 hv
      have:i∈V.s6 vs:=rO.2 ⟨j,v,hj,by rw[hi]; simp⟩
      rw[h]at this; cases this
  rw[LC]
  conv=>rhs; rw[←List.map_id vs]
  exact List.map_congr_left this

theorem RR {E:Env R} (hE:p6 P E) (wf:WF w h c) {o:Oper} {cl:Call} (ho:o.op = .call cl) {ρ:Operand→V} {ρ':Operand→Value} (hρ:∀x,dK w h c (ρ x) (ρ' x)) {full:Bool}
    {k:V→az→Option R} {r:R} (hk:yq tt E full cl ρ h k=some r) :
    ∃g args,(execOp ρ' o).run P w=(callFunc g args).run P w∧w9 P g args w fun d w' =>
      ∃v h' c',WF w' h' c'∧Ext w h c w' h' c'∧dK w' h' c' v d∧k v h'=some r∧uc false 0 h h'∧(full=false→h'=h):=by
  obtain ⟨dst,op,type,pos,after,guard⟩:=o
  simp only at ho
  subst ho
  unfold yq at hk
  split at hk <;> try (first|cases hk)
  rename_i f hf
  split at hk <;> try (first|cases hk)
  rename_i g first cap hg
  have rf:=hρ f
  rw[hg]at rf
  generalize hdf:ρ' f=df at rf
  cases rf with
  | @func _ _ _ x y ha hb hra hrb =>
    have Yw:cK w h c (first++cl.args.toList.map ρ++cap) (x++cl.args.map ρ'++y).toList:=by
      have e:(x++cl.args.map ρ'++y).toList=x.toList++cl.args.toList.map ρ'++y.toList:=by simp
      rw[e]
      refine cK.append (cK.append ⟨by simpa using ha,fun j v d hv hd=>hra j v d hv (by simpa using hd)⟩ (cK.map _ fun z _=>hρ z)) ⟨by simpa using hb,fun j v d hv hd=>hrb j v d hv (by simpa using hd)⟩
    have Yx:cK w h c ((first++Hx tt cl.argTypes.toList (cl.args.toList.map ρ)++cap).map D5) (x++cl.args.map ρ'++y).toList:=by
      have e:(x++cl.args.map ρ'++y).toList=x.toList++cl.args.toList.map ρ'++y.toList:=by simp
      rw[e]
      refine Ql (cK.append (cK.append ⟨by simpa using ha,fun j v d hv hd=>hra j v d hv (by simpa using hd)⟩ (My _ (cK.map _ fun z _=>hρ z))) ⟨by simpa using hb,fun j v d hv hd=>hrb j v d hv (by simpa using hd)⟩)
    simp only at hk
    refine ⟨g,x++cl.args.map ρ'++y,by simp[execOp,resolve,hf,hdf,Deferred.ofValue,invoke],?_⟩
    generalize (first++Hx tt cl.argTypes.toList (cl.args.toList.map ρ)++cap).map D5=ps at *
    generalize first++cl.args.toList.map ρ++cap=vs at *
    split at hk <;> try (first|cases hk)
    · -- a plain one
      rename_i sp Qm
      split at hk
      · rename_i Mx
        have ra:=HG (ord := []) Yx
        rw[Pc Mx]at ra
        refine w9.mono ((hE g _ sp Qm).1 _ _ _ _ hk w _ _ (JT (ord := []) wf List.nodup_nil) ra) fun d w' ⟨v,h',c',U2,x,rv,rN⟩ => ?_
        obtain ⟨k1,k2,k3⟩:=O4 wf (ord := []) (by simp) (by simp) U2 x
        split at rN <;> try (first|cases rN)
        refine ⟨v,h,c.back [] h.length c',?_,?_,?_,rN,⟨Nat.le_refl _,fun j _ _ hf=>hf⟩,fun _=>rfl⟩
        · rw[Mz]at k1; exact k1
        · rw[Mz]at k2; exact k2
        · have:=rv.pZ k3
          rw[Mz]at this
          rw[RQ]at this
          · exact this
          · cases hi:v.ids with
            | nil=>rfl
            | cons i l =>
              have:=rv.zP i (by rw[hi]; simp)
              exact (Nat.not_lt_zero _ this.1).elim
      · cases full with
        | false=>cases hk
        | true =>
          simp only[cond_true]at hk
          unfold X7 at hk
          split at hk <;> try (first|cases hk)
          rename_i Mx
          have ra:=HG (ord := []) (Pa wf Yx)
          rw[Pc Mx]at ra
          refine w9.mono ((hE g _ sp Qm).1 _ _ _ _ hk w _ _ (JT (ord := []) (CS _ _ wf) List.nodup_nil) ra) fun d w' ⟨v,h',c',U2,x,rv,rN⟩ => ?_
          split at rN <;> try (first|cases rN)
          cases hs:v.VR with
          | false=>rw[hs]at rN; cases rN
          | true =>
            rw[hs]at rN
            obtain ⟨hx,hw⟩:=WB wf x
            exact ⟨v,h,c,hw,hx,Yu hs rv,rN,⟨Nat.le_refl _,fun j _ _ hf=>hf⟩,fun _=>rfl⟩
    · rename_i sp Qm
      cases full with
      | false=>cases hk
      | true =>
        simp only[cond_true]at hk
        cases hso:oZ.soft g with
        | true =>
          rw[hso]at hk
          simp only[cond_true]at hk
          obtain ⟨k',WC,GN⟩:=((hE g _ sp Qm).2 rfl hso).same hk
          refine w9.mono ((hE g _ sp Qm).1 _ _ _ _ WC w _ _ wf Yw) fun d w' ⟨v,h',c',U2,x,rv,rN⟩ => ?_
          obtain ⟨rfl,XR⟩:=GN _ _ rN
          exact ⟨v,_,c',U2,x,rv,XR,⟨Nat.le_refl _,fun j _ _ hf=>hf⟩,fun _=>rfl⟩
        | false =>
        rw[hso]at hk
        simp only[cond_false]at hk
        have hui:=Yw.zP
        generalize V.s6 vs=ids at *
        have hu:∀i∈reach h 64 ids [],Used h i:=HF wf _ _ _ hui (by simp)
        have E7:(reach h 64 ids []).Nodup:=CQ h _ _ _ (by simp)
        refine w9.mono ((hE g _ sp Qm).1 _ _ _ _ hk w _ _ (JT wf E7) (HG Yw)) fun d w' ⟨v,h',c',U2,x,rv,rN⟩ => ?_
        obtain ⟨k1,k2,k3⟩:=O4 wf E7 hu U2 x
        have hle:(reach h 64 ids []).length≤h'.length:=by
          rcases Nat.eq_zero_or_pos (reach h 64 ids []).length with h0|h0
          · omega
          · have:=(x.used ((reach h 64 ids []).length - 1) ⟨by simp[az.pick]; omega,by
              rw[vB,List.getElem?_eq_getElem (by omega)]
              simp only[ne_eq,DA]
              exact (hu _ (List.getElem_mem _)).2⟩).1
            omega
        exact ⟨_,_,_,k1,k2,rv.pZ k3,rN,TH E7 hu hle,fun V1=>by cases V1⟩
end

section
variable {tt:dO} {h:az} {R:Type}

theorem WD {T:Ty} {x:V} {id ix:Nat} {ob:ca} (hx:lowX id x=true) (lp:id<ix):Ky T (h.set ix ob) x=Ky T h x:=by
  cases x <;> simp only[Ky]
  case row i n =>
    simp only[lowX,decide_eq_true_eq]at hx
    rw[de _ (by omega)]

theorem RS {e id ix:Nat} {s x:V} {ob:ca} {k:V→az→Option R} (hs:S9 id s=true) (hx:lowX id x=true) (lp:id<ix) :
    oB tt e s x (h.set ix ob) id k=oB tt e s x h id fun v h'=>k v (h'.set ix ob):=by
  have hc:∀(h:az) (o1:ca),(h.set ix ob).set id o1=(h.set id o1).set ix ob:=fun h o1=>List.set_comm _ _ (by omega)
  unfold oB
  cases (tt.at e).ty with
  | none=>rfl
  | some T =>
    simp only[WD hx lp]
    split
    · cases Ky T h x with
      | none=>rfl
      | some m =>
        cases s with
        | cJ =>
          simp only[hc]
        | sl T' l tk =>
          simp only
          split
          · cases tk with
            | no=>rfl
            | nil=>simp only[hc]
            | own i =>
              simp only[S9,decide_eq_true_eq]at hs
              simp only
              rw[de _ (by omega)]
              have hci:∀o1:ca,(h.set ix ob).set i o1=(h.set i o1).set ix ob:=fun o1=>List.set_comm _ _ (by omega)
              simp only[hci,hc]
          · rfl
        | row i n=>simp[S9]at hs
        | _=>rfl
    · rfl

theorem Qn {e id:Nat} {s x:V} {k k':V→az→Option R} (hs:S9 id s=true) (hk:∀v h',(∀i,i<id→(h'.at i).rd=(h.at i).rd)→k v h'=k' v h') :
    oB tt e s x h id k=oB tt e s x h id k':=by
  have h1:∀v o1,k v (h.set id o1)=k' v (h.set id o1):=fun v o1=>hk v _ fun i hi=>by rw[de _ (by omega)]
  unfold oB
  cases (tt.at e).ty with
  | none=>rfl
  | some T =>
    simp only
    split
    · cases Ky T h x with
      | none=>rfl
      | some m =>
        cases s with
        | cJ=>simp only[h1]
        | sl T' l tk =>
          simp only
          split
          · cases tk with
            | no=>rfl
            | nil=>simp only[h1]
            | own i =>
              simp only[S9,decide_eq_true_eq]at hs
              simp only
              have h2:h.at i = .tok→∀v o1,k v ((h.set i .dead).set id o1)=k' v ((h.set i .dead).set id o1):=fun ht v o1=>hk v _ fun j hj=>by
                rw[de _ (by omega)]
                by_cases e:i=j
                · subst e
                  rw[ht,nK]
                  split <;> simp[ca.rd,ht]
                · rw[de _ e]
              cases ht:h.at i <;> try rfl
              simp only[h2 ht]
          · rfl
        | row i n=>simp[S9]at hs
        | _=>rfl
    · rfl

theorem Qo {o:Op} (ha:pO o=true):∃c,o = .call c∧c.callee = .builtin .append:=by
  unfold pO at ha
  split at ha <;> try (first|cases ha)
  rename_i c
  refine ⟨c,rfl,?_⟩
  revert ha
  split
  · intro _; assumption
  · intro h; cases h

theorem CT {o:Op} (ha:pO o=true):fB tt o = .W:=by
  obtain ⟨c,rfl,hc⟩:=Qo ha
  simp only[fB,hc]

theorem Qp {o:Op} {ρ ρ':Operand→V} {id:Nat} (h':∀x∈o.operands,ρ x=ρ' x):vM o ρ id=vM o ρ' id:=by
  unfold vM
  split
  · rename_i c
    have ha:∀x∈c.args.toList,ρ x=ρ' x:=fun x hx=>h' x (by simp[Op.operands,Call.operands]at hx ⊢; exact .inr hx)
    split
    · rename_i s x e
      rw[ha s (by rw[e]; simp),ha x (by rw[e]; simp)]
    · rfl
  · rfl

theorem opW_set {o:Op} {ρ:Operand→V} {id ix:Nat} {ob:ca} {k:V→az→Option R} (ha:pO o=true) (hl:vM o ρ id=true) (lp:id<ix) :
    Lz tt o ρ (h.set ix ob) id k=Lz tt o ρ h id fun v h'=>k v (h'.set ix ob):=by
  obtain ⟨⟨callee,args,argTypes⟩,rfl,hc⟩:=Qo ha
  simp only at hc
  subst hc
  simp only[Lz]
  split
  · rename_i s x t xt _ e et
    simp only[vM,e,Bool.and_eq_true]at hl
    simp only[RS hl.1 hl.2 lp]
  · rfl

theorem RT {o:Op} {ρ:Operand→V} {id:Nat} {k k':V→az→Option R} (ha:pO o=true) (hl:vM o ρ id=true) (hk:∀v h',(∀i,i<id→(h'.at i).rd=(h.at i).rd)→k v h'=k' v h') :
    Lz tt o ρ h id k=Lz tt o ρ h id k':=by
  obtain ⟨⟨callee,args,argTypes⟩,rfl,hc⟩:=Qo ha
  simp only at hc
  subst hc
  simp only[Lz]
  split
  · rename_i s x t xt _ e et
    simp only[vM,e,Bool.and_eq_true]at hl
    simp only[Qn hl.1 hk]
  · rfl
end

section
variable {P:Program} {tt:dO} {w w':World} {h h':az} {c c':kA} {R:Type}

structure HH (w:World) (c:kA) (st:St) (a:Act):Prop where
  wf:WF w st.hp c
  fr:cK w st.hp c st.fr a.tmps.toList

theorem uc.refl (al:Bool) (id:Nat) (h:az):uc al id h h:=⟨Nat.le_refl _,fun _ _ _ hf=>hf⟩
theorem uc.set {id:Nat} (ob:ca):uc true id h (h.set id ob):=⟨by simp,fun j hj _ hf=>by rw[de _ (Ne.symm (hj rfl))]; exact hf⟩
theorem uc.weak {al:Bool} {id:Nat} (k:uc false 0 h h'):uc al id h h':=⟨k.1,fun j _ hj hf=>k.2 j (by simp) hj hf⟩

theorem opW_nat {o:Op} {ρ:Operand→V} {id:Nat} {k0:V→az→Option R} {r:R} (hk:Lz tt o ρ h id k0=some r) :
    ∃v h',k0 v h'=some r∧uc true id h h'∧∀k:V→az→Option R,Lz tt o ρ h id k=k v h':=by
  have WE:∀i ob,h.at i ≠ .free→uc true id h (h.set i ob):=fun i ob hi=>⟨by simp,fun j _ _ hf=>by
    rw[de _ (fun e:i=j=>hi (by rw[e]; exact hf))]; exact hf⟩
  have kset2:∀i ob ob',h.at i ≠ .free→uc true id h ((h.set i ob).set id ob'):=fun i ob ob' hi=>⟨by simp,fun j hj _ hf=>by
    rw[de _ (Ne.symm (hj rfl)),de _ (fun e:i=j=>hi (by rw[e]; exact hf))]; exact hf⟩
  cases o <;> simp only[Lz]at hk ⊢ <;> try (first|cases hk)
  case store t x y =>
    split at hk <;> try (first|cases hk)
    rename_i vs hvs
    split at hk <;> try (first|cases hk)
    rename_i hc
    split at hk <;> try (first|cases hk)
    · rename_i i o hx
      split at hk <;> try (first|cases hk)
      · rename_i cs Cs
        split at hk <;> try (first|cases hk)
        rename_i hl
        exact ⟨_,_,hk,WE i _ (by rw[Cs]; simp),fun k=>by simp only[*,if_true]⟩
      rename_i u Cs
      split at hk <;> try (first|cases hk)
      exact ⟨_,_,hk,WE i _ (by rw[Cs]; simp),fun k=>by simp only[*,if_true]⟩
    · rename_i i sz j o hx
      split at hk <;> try (first|cases hk)
      rename_i T l Cs
      split at hk <;> try (first|cases hk)
      rename_i hs
      split at hk <;> try (first|cases hk)
      rename_i hl
      split at hk <;> try (first|cases hk)
      rename_i z hz
      obtain ⟨hb,hk⟩:=cB hk
      exact ⟨_,_,hk,WE i _ (by rw[Cs]; simp),fun k=>by simp only[*,if_true,cU,cond_true]⟩
  case mapUpdate t m x y =>
    split at hk <;> try (first|cases hk)
    rename_i kt vt i ht hx
    split at hk <;> try (first|cases hk)
    rename_i K V' l hm
    split at hk <;> try (first|cases hk)
    rename_i hf
    split at hk <;> try (first|cases hk)
    rename_i kx vx hkx hvx
    exact ⟨_,_,hk,WE i _ (by rw[hm]; simp),fun k=>by simp only[ht,hx,hm,hf,hkx,hvx,if_true]⟩
  case insert t m x y =>
    split at hk <;> try (first|cases hk)
    rename_i kt vt i ht hx
    split at hk <;> try (first|cases hk)
    rename_i K V' l hm
    split at hk <;> try (first|cases hk)
    rename_i hf
    split at hk <;> try (first|cases hk)
    rename_i kx vx hkx hvx
    exact ⟨_,_,hk,WE i _ (by rw[hm]; simp),fun k=>by simp only[ht,hx,hm,hf,hkx,hvx,if_true]⟩
  case next x str =>
    split at hk <;> try (first|cases hk)
    rename_i i hx
    split at hk <;> try (first|cases hk)
    rename_i s pos hit
    cases hb:decide (pos<s.length)with
    | true =>
      rw[hb]at hk
      exact ⟨_,_,hk,WE i _ (by rw[hit]; simp),fun k=>by simp only[hx,hit,hb,cond_true]⟩
    | false =>
      rw[hb]at hk
      exact ⟨_,_,hk, .refl _ _ _,fun k=>by simp only[hx,hit,hb,cond_false]⟩
  case call cl =>
    have happ:∀e s x,oB tt e s x h id k0=some r→∃v h',k0 v h'=some r∧uc true id h h'∧∀k:V→az→Option R,oB tt e s x h id k=k v h':=by
      intro e s x hk
      unfold oB at hk
      split at hk <;> try (first|cases hk)
      rename_i T hT
      split at hk <;> try (first|cases hk)
      rename_i hc
      split at hk <;> try (first|cases hk)
      rename_i m hm
      split at hk <;> try (first|cases hk)
      · obtain ⟨hb,hk⟩:=cB hk
        split at hk
        · rename_i hr
          exact ⟨_,_,hk,uc.set _,fun k=>by simp only[oB,hT,hc,hm,if_true,hb,cU,cond_true,hr]⟩
        · rename_i hr
          exact ⟨_,_,hk,uc.set _,fun k=>by simp only[oB,hT,hc,hm,if_true,hb,cU,cond_true,if_neg hr]⟩
      · split at hk <;> try (first|cases hk)
        rename_i hq
        subst hq
        split at hk <;> try (first|cases hk)
        · obtain ⟨hb,hk⟩:=cB hk
          exact ⟨_,_,hk,uc.set _,fun k=>by simp only[oB,hT,hc,hm,if_true,hb,cU,cond_true,dite_true]⟩
        · split at hk <;> try (first|cases hk)
          rename_i hi
          obtain ⟨hb,hk⟩:=cB hk
          exact ⟨_,_,hk,kset2 _ _ _ (by rw[hi]; simp),fun k=>by simp only[oB,hT,hc,hm,hi,if_true,hb,cU,cond_true,dite_true]⟩
      · split at hk <;> try (first|cases hk)
        rename_i T' l hi
        split at hk <;> try (first|cases hk)
        rename_i hq
        subst hq
        obtain ⟨hb,hk⟩:=cB hk
        exact ⟨_,_,hk,kset2 _ _ _ (by rw[hi]; simp),fun k=>by simp only[oB,hT,hc,hm,hi,if_true,hb,cU,cond_true,dite_true]⟩
    split at hk <;> try (first|cases hk)
    split at hk <;> try (first|cases hk)
    · obtain ⟨v,h',h1,h2,h3⟩:=happ _ _ _ hk
      exact ⟨v,h',h1,h2,fun k=>by simp[*]⟩
    · obtain ⟨v,h',h1,h2,h3⟩:=happ _ _ _ hk
      exact ⟨v,h',h1,h2,fun k=>by simp[*]⟩

theorem A2 {st:List V} {a:Act} (r:cK w h c st a.tmps.toList) (dst:Option Nat) {v:V} {d:Value} (rv:dK w h c v d):cK w h c (mX st dst v) (a.put dst d).tmps.toList:=by
  cases dst with
  | none=>exact r
  | some j=>simpa [mX,Act.put]using r.set j rv

theorem put_defers (a:Act) (dst:Option Nat) (d:Value):(a.put dst d).defers=a.defers:=by cases dst <;> rfl
theorem FK (T:yb P tt) {E:Env R} (hE:p6 P E) {o:Oper} {st:St} {a:Act} {drawn:Option Nat} {id:Nat} {k:St→Option R} {r:R} (hk:zO tt E drawn id o st k=some r) (iQ:HH w c st a)
    (hid:cm tt o=true→id<st.hp.length∧st.hp.at id = .free) {next:Act→World→Prop} {Q:Exit→Act→World→Prop}
    (hn:∀d w' tK c' v,HH w' c' tK (a.put o.dst d)→Ext w st.hp c w' tK.hp c'→uc (cm tt o) id st.hp tK.hp→tK.fr=mX st.fr o.dst v→(fB tt o.op ≠ .W→(fB tt o.op = .C→(drawn.isNone || !oC E o.op)=false)→∀i,(cm tt o=true→i≠id)→tK.hp.at i=st.hp.at i)→(pO o.op=true→drawn.isSome=true→∀i,i<id→(tK.hp.at i).rd=(st.hp.at i).rd)→k tK=some r→next (a.put o.dst d) w'):o.wp P a w next Q:=by
  have hρ:=fun x=>TJ iQ.fr x
  unfold zO at hk
  unfold Oper.wp
  simp only at hk
  split at hk
  · rename_i B0
    obtain ⟨v,d,h1,h2,h3⟩:=V5 (w:=w) T hρ hk
    rw[h1,Oper.upon_value]
    exact hn d w ⟨mX st.fr o.dst v,st.hp⟩ c v ⟨iQ.wf,A2 iQ.fr _ h2⟩ (.refl _ _ _) (.refl _ _ _) rfl (fun _ _ _ _=>rfl) (fun _ _ _ _=>rfl) h3
  · rename_i B0
    obtain ⟨v,d,h1,h2,h3⟩:=Wc T iQ.wf hρ hk
    rw[h1,Oper.upon_value]
    exact hn d w ⟨mX st.fr o.dst v,st.hp⟩ c v ⟨iQ.wf,A2 iQ.fr _ h2⟩ (.refl _ _ _) (.refl _ _ _) rfl (fun _ _ _ _=>rfl) (fun _ _ _ _=>rfl) h3
  · rename_i B0
    have hal:cm tt o=true:=by simp[cm,B0]
    obtain ⟨ob,mk,h1,_,h2⟩:=Wp T iQ.wf hρ hk
    obtain ⟨d,w',c',g1,g2,g3,g4⟩:=h2 id (hid hal).1 (hid hal).2
    rw[g1,Oper.upon_value]
    exact hn d w' ⟨mX st.fr o.dst (mk id),st.hp.set id ob⟩ c' (mk id) ⟨g2,A2 (iQ.fr.mono g3) _ g4⟩ g3 (by rw[hal]; exact uc.set _) rfl (fun _ _ i hi=>de _ (Ne.symm (hi hal))) (fun _ _ i hi=>by rw[de _ (by omega)]) h1
  · rename_i B0
    have hal:cm tt o=true:=by simp[cm,B0]
    have hk:(vM o.op (ev st.fr) id=true∨drawn.isSome=false)∧Lz tt o.op (ev st.fr) st.hp id (fun v h=>k ⟨mX st.fr o.dst v,h⟩)=some r:=by
      revert hk
      cases vM o.op (ev st.fr) id <;> cases drawn.isSome <;> simp
    obtain ⟨Qq,hk⟩:=hk
    let C:az→Prop:=fun h'=>pO o.op=true→drawn.isSome=true→∀i,i<id→(h'.at i).rd=(st.hp.at i).rd
    have hk:Lz tt o.op (ev st.fr) st.hp id (fun v h'=>open Classical in if C h' then k ⟨mX st.fr o.dst v,h'⟩else none)=some r:=by
      by_cases ha:pO o.op=true∧drawn.isSome=true
      · have hl:=Qq.resolve_right (by simp[ha.2])
        rw[←hk]
        exact RT ha.1 hl fun v h' hrd=>if_pos fun _ _=>hrd
      · have:∀h',C h':=fun h' h1 h2=>(ha ⟨h1,h2⟩).elim
        rw[←hk]
        congr 1
        funext v h'
        exact if_pos (this h')
    obtain ⟨v0,h0,hk0,hkeep,hnat⟩:=opW_nat hk
    have hk0':(open Classical in if C h0 then k ⟨mX st.fr o.dst v0,h0⟩else none)=some r:=hk0
    have hC0:C h0:=by
      by_cases hc:C h0
      · exact hc
      · rw[if_neg hc]at hk0'; cases hk0'
    rw[if_pos hC0]at hk0'
    replace hk0:=hk0'
    have GN:=hnat fun v h'=>open Classical in if h'=h0 then k ⟨mX st.fr o.dst v,h'⟩else none
    simp only[if_true]at GN
    obtain ⟨v,h',d,w',c',nx,g1,g2,g3,g4,g5,g6⟩:=Wx T iQ.wf hρ (hid hal).1 (hid hal).2 (GN.trans hk0)
    split at g6 <;> try (first|cases g6)
    rename_i he
    subst he
    rw[g1]
    rcases g2 with rfl|⟨rfl,rfl⟩
    · rw[Oper.upon_value]
      exact hn d w' ⟨mX st.fr o.dst v,h'⟩ c' v ⟨g3,A2 (iQ.fr.mono g4) _ g5⟩ g4 (by rw[hal]; exact hkeep) rfl (fun hC=>(hC B0).elim) hC0 g6
    · rw[Oper.upon_skip]
      exact hn undef w' ⟨mX st.fr o.dst v,h'⟩ c' v ⟨g3,A2 (iQ.fr.mono g4) _ g5⟩ g4 (by rw[hal]; exact hkeep) rfl (fun hC=>(hC B0).elim) hC0 g6
  · rename_i B0
    split at hk <;> try (first|cases hk)
    rename_i cl Fz
    obtain ⟨g,args,h1,nx,w1,h2,h3⟩:=RR hE iQ.wf Fz hρ hk
    rw[h1,h2]
    have fin:∀d w',(∃v h' c',WF w' h' c'∧Ext w st.hp c w' h' c'∧dK w' h' c' v d∧k ⟨mX st.fr o.dst v,h'⟩=some r∧uc false 0 st.hp h'∧((drawn.isNone || !oC E o.op)=false→h'=st.hp))→next (a.put o.dst d) w':=by
      rintro d w' ⟨v,h',c',q1,q2,q3,q4,q5,q6⟩
      exact hn d w' ⟨mX st.fr o.dst v,h'⟩ c' v ⟨q1,A2 (iQ.fr.mono q2) _ q3⟩ q2 q5.weak rfl (fun _ hd i _=>by rw[q6 (hd B0)]) (fun ha=>by rw[CT ha]at B0; cases B0) q4
    cases nx <;> simp only at h3
    · rw[Oper.upon_value]; exact fin _ _ h3
    · rw[Oper.upon_enter]
      exact Calls.mono h3 fun e w' ⟨d,e1,q⟩=>by subst e1; exact fin d w' q
    · rw[Oper.upon_row]
      exact Rows.mono h3 fun d w' q=>fin d w' q
  · cases hk
  · cases hk
end

section
variable {P:Program} {tt:dO} {w w':World} {h h':az} {c c':kA} {R:Type}

theorem Yy {fr:List V} {d:Nat} {v:V} (h:fr.getD d .undef=v) (hv:v ≠ .undef):fr.set d v=fr:=by
  have hd:d<fr.length:=by
    rcases Nat.lt_or_ge d fr.length with hl|hl
    · exact hl
    · simp[List.getD,List.getElem?_eq_none hl]at h; exact (hv h.symm).elim
  have e:fr[d]=v:=by simpa [List.getD,List.getElem?_eq_getElem hd]using h
  rw[←e]
  exact List.set_getElem_self hd

theorem BP {all:List Oper} {o:Oper} {st:St} {run skip:St→Option R}:vN all o st run skip =
    match o.guard with
    | none=>run st
    | some (j,want) =>
      match (all[j]?).bind (·.dst)with
      | none=>none
      | some d=>match st.fr.getD d .undef with | .bool b=>if b=want then run st else skip st | .tuple []=>skip st|_=>none:=by
  unfold vN
  cases o.guard with
  | none=>rfl
  | some jw =>
    obtain ⟨j,want⟩:=jw
    simp only
    cases (all[j]?).bind (·.dst)with
    | none=>rfl
    | some d =>
      simp only
      cases hb:st.fr.getD d .undef with
      | bool b =>
        have e:(⟨st.fr.set d (.bool b),st.hp⟩:St)=st:=by rw[Yy hb (by simp)]
        cases b <;> cases want <;> simp[e]
      | tuple vs=>cases vs <;> rfl
      | _=>rfl

theorem Eg {ops:Array Oper} {o:Oper} {st:St} {a:Act} (iQ:HH w c st a) {run skip:St→Option R} {r:R} (hk:vN ops.toList o st run skip=some r) :
    (Region.wanted o (yielded ops a.tmps)=true∧run st=some r)∨(Region.wanted o (yielded ops a.tmps)=false∧skip st=some r):=by
  rw[BP]at hk
  unfold Region.wanted
  split at hk
  · rename_i hg; simp only[hg]; exact .inl ⟨trivial,hk⟩
  · rename_i j want hg
    simp only[hg]
    split at hk <;> try (first|cases hk)
    rename_i d hd
    have hl:∀v,st.fr.getD d .undef=v→v ≠ .undef→d<st.fr.length:=fun v hv km=>by
      rcases Nat.lt_or_ge d st.fr.length with hl|hl
      · exact hl
      · simp[List.getD,List.getElem?_eq_none hl]at hv; exact (km hv.symm).elim
    have key:∀v,st.fr.getD d .undef=v→v ≠ .undef→∃x,a.tmps[d]? = some x∧dK w st.hp c v x:=fun v hb km=>by
      have hl:=hl v hb km
      have Q2:d<a.tmps.size:=by rw[←(by simpa using iQ.fr.1:st.fr.length=a.tmps.size)]; exact hl
      exact ⟨a.tmps[d],Array.getElem?_eq_getElem Q2,iQ.fr.2 d v a.tmps[d] (by rw[List.getElem?_eq_getElem hl]; simpa [List.getD,List.getElem?_eq_getElem hl]using hb) (by simp)⟩
    have V1:(ops[j]?).bind (·.dst)=some d:=by simpa using hd
    split at hk <;> try (first|cases hk)
    · rename_i b hb
      obtain ⟨x,hx,rv⟩:=key _ hb (by simp)
      have hy:yielded ops a.tmps j=some b:=by
        unfold yielded
        rw[V1]
        simp only[Option.bind_some,hx]
        cases rv
        rfl
      rw[hy]
      split at hk
      · rename_i hw; subst hw; exact .inl ⟨by simp,hk⟩
      · rename_i hw; exact .inr ⟨by simpa using hw,hk⟩
    · rename_i hb
      obtain ⟨x,hx,rv⟩:=key _ hb (by simp)
      have hy:yielded ops a.tmps j=none:=by
        unfold yielded
        rw[V1]
        simp only[Option.bind_some,hx]
        cases rv
        rfl
      rw[hy]
      exact .inr ⟨by simp,hk⟩

theorem JW:dK w h c (.tuple []) undef := .tuple rfl (by simp)

def Yz (w:World) (c:kA) (st:St) (a:Act) (k:St→Option R) (r:R) (K:Act→World→Prop):Prop :=
  ∀a' w' tK c',HH w' c' tK a'→Ext w st.hp c w' tK.hp c'→a'.defers=a.defers→k tK=some r→K a' w'

def Slots (tt:dO) (rest:List Oper) (id:Nat) (h:az):Prop:=∀j,id≤j→j<id+(rest.filter (cm tt)).length→j<h.length∧h.at j = .free

theorem HI (T:yb P tt) {E:Env R} (hE:p6 P E) {ops:Array Oper} {k:St→Option R} {r:R} {Q:Exit→Act→World→Prop}:∀(rest:List Oper) (n id:Nat) (w:World) (c:kA) (st:St) (a:Act),
    ops.toList.drop n=rest→L5 tt E none ops.toList rest id st k=some r→HH w c st a→Slots tt rest id st.hp→Yz w c st a k r (Q .normal)→wpOps P ops Q (List.range' n rest.length) a w
  | [],n,id,w,c,st,a,_,hk,iQ,_,go=>go a w st c iQ (.refl _ _ _) rfl hk
  | o::rest,n,id,w,c,st,a,hd,hk,iQ,hs,go=>by
    have hn:ops[n]? = some o:=by
      have:(ops.toList.drop n)[0]? = some o:=by rw[hd]; rfl
      rw[List.getElem?_drop]at this
      simpa using this
    have V1:ops.toList.drop (n+1)=rest:=by
      have:(ops.toList.drop n).drop 1=rest:=by rw[hd]; rfl
      rwa [List.drop_drop]at this
    rw[List.length_cons,List.range'_succ,wpOps_cons]
    unfold wpOp
    simp only[hn]
    simp only[L5,D6]at hk
    have hsl:∀h',uc (cm tt o) id st.hp h'→Slots tt rest (if cm tt o then id+1 else id) h':=by
      intro h' kp j h1 h2
      cases ha:cm tt o with
      | true =>
        rw[ha]at h1 h2 kp
        simp only[if_true]at h1 h2
        obtain ⟨g1,g2⟩:=hs j (by omega) (by rw[List.filter_cons_of_pos ha,List.length_cons]; omega)
        exact ⟨Nat.lt_of_lt_of_le g1 kp.1,kp.2 j (fun _=>by omega) g1 g2⟩
      | false =>
        rw[ha]at h1 h2 kp
        simp only[Bool.false_eq_true,if_false]at h1 h2
        obtain ⟨g1,g2⟩:=hs j (by omega) (by rw[List.filter_cons_of_neg (by simp[ha])]; omega)
        exact ⟨Nat.lt_of_lt_of_le g1 kp.1,kp.2 j (fun h=>by cases h) g1 g2⟩
    rcases Eg iQ hk with ⟨hw,hk⟩|⟨hw,hk⟩
    · rw[if_pos hw]
      refine .inl (FK T hE hk iQ (fun ha=>hs id (Nat.le_refl _) (by rw[List.filter_cons_of_pos ha,List.length_cons]; omega)) fun d w' tK c' v TK x kp _ _ _ rN => ?_)
      refine HI T hE rest (n+1) _ w' c' tK _ V1 rN TK (hsl _ kp) fun a2 w2 Ct c2 s2 x2 d2 k2 => ?_
      exact go a2 w2 Ct c2 s2 (x.trans x2) (d2.trans (put_defers _ _ _)) k2
    · rw[if_neg (by simp[hw])]
      refine HI T hE rest (n+1) _ w c ⟨mX st.fr o.dst (.tuple []),st.hp⟩ _ V1 hk ⟨iQ.wf,A2 iQ.fr _ JW⟩ (hsl _ (.refl _ _ _)) fun a2 w2 Ct c2 s2 x2 d2 k2 => ?_
      exact go a2 w2 Ct c2 s2 x2 (d2.trans (put_defers _ _ _)) k2

theorem LF {n i:Nat}:az.at (h++List.replicate n .free) i=h.at i∨(h.length≤i∧az.at (h++List.replicate n .free) i = .free):=by
  rcases Nat.lt_or_ge i h.length with hi|hi
  · exact .inl (ly hi)
  · rcases Nat.lt_or_ge (i - h.length) n with hj|hj
    · refine .inr ⟨hi,?_⟩
      rw[kg hi]
      simp[az.at,List.getD,List.getElem?_replicate,hj]
    · refine .inl ?_
      rw[kg hi]
      have h1:¬(i - h.length<n):=by omega
      have h2:¬(i<h.length):=by omega
      simp[az.at,List.getD,List.getElem?_replicate,h1,List.getElem?_eq_none hi]

theorem YA {i:Nat} (hi:h.length≤i):h.at i = .dead:=by simp[az.at,List.getD,List.getElem?_eq_none hi]

theorem MA {n b x:Nat}:uo (h++List.replicate n .free) c b x↔uo h c b x:=by
  constructor
  · rintro ⟨i,f,h1,h2,h3⟩
    rcases LF (h:=h) (n:=n) (i:=i)with e|⟨_,e⟩
    · exact ⟨i,f,h1,e▸h2,h3⟩
    · rw[e]at h2; cases h2
  · rintro ⟨i,f,h1,h2,h3⟩
    rcases LF (h:=h) (n:=n) (i:=i)with e|⟨hi,e⟩
    · exact ⟨i,f,h1,e.symm▸h2,h3⟩
    · rw[YA hi]at h2; cases h2

theorem tN (n:Nat):Ext w h c w (h++List.replicate n .free) c where
  os:=rfl
  tape:=rfl
  output:=rfl
  size:=Nat.le_refl _
  used:=fun i hi=>⟨by simp; have:=hi.1; omega,by
    rw[ly hi.1]; exact hi.2⟩
  same:=fun i hi hd=>by
    rw[ly hi.1]at hd ⊢
    exact ⟨DE (Gt hi.2 hd) (fun _ _ _ => .inr trivial),rfl,rfl⟩
  cell:=fun _ _ _ _=>rfl
  block:=fun _ _ _=>rfl
  wK:=fun b x _ ho=>MA.1 ho
  ext:=rfl
  arr:=fun b arr e fz hb=>⟨arr,fz,hb,rfl⟩

theorem FL (wf:WF w h c) (n:Nat):WF w (h++List.replicate n .free) c where
  lay:=wf.sA (tN n)
  yw:=fun b x ho=>wf.yw b x (MA.1 ho)
  pP:=wf.pP
  obj:=fun i hi=>by
    rcases LF (h:=h) (n:=n) (i:=i)with e|⟨_,e⟩
    · rw[e]
      rcases Nat.lt_or_ge i h.length with hl|hl
      · have ho:=wf.obj i hl
        by_cases hv:(h.at i).live
        · exact ho.keep (tN n) (fun _ _=>rfl) rfl rfl
        · have h0:h.at i = .free∨h.at i = .dead:=by revert hv; cases h.at i <;> simp[ca.live]
          rcases h0 with h0|h0 <;> rw[h0] <;> trivial
      · rw[YA hl]; trivial
    · rw[e]; trivial
  inj:=fun i j b hi hj h1 h2=>by
    have hl:∀i,(az.at (h++List.replicate n .free) i).live→(h.at i).live:=fun i hi=>by
      rcases LF (h:=h) (n:=n) (i:=i)with e|⟨_,e⟩
      · rw[e]at hi; exact hi
      · rw[e]at hi; exact hi.elim
    exact wf.inj i j b (hl i hi) (hl j hj) h1 h2

theorem Qr (T:yb P tt) {E:Env R} (hE:p6 P E) {id:Nat} {ops:Array Oper} {k:St→Option R} {r:R} {Q:Exit→Act→World→Prop} {st:St} {a:Act}
    (hk:Gr tt E ops.toList false st k=some r) (iQ:HH w c st a) (go:Yz w c st a k r (Q .normal)):(Code.region id ops false).wp P Q a w:=by
  refine wp_region ?_
  simp only[Gr,Bool.false_eq_true,if_false]at hk
  have:=HI T hE (ops:=ops) (Q:=Q) ops.toList 0 st.hp.length w c _ a rfl hk ⟨FL iQ.wf _,iQ.fr.mono (tN _)⟩ ?_ ?_
  · rw[List.range_eq_range']
    simpa using this
  · intro j h1 h2
    refine ⟨by simp; omega,?_⟩
    rw[kg h1]
    have:j - st.hp.length<(ops.toList.filter (cm tt)).length:=by omega
    simp[az.at,List.getD,List.getElem?_replicate,this]
  · exact fun a2 w2 Ct c2 s2 x2 d2 k2=>go a2 w2 Ct c2 s2 ((tN _).trans x2) d2 k2
end

section
variable {P:Program} {tt:dO} {w w':World} {h h':az} {c c':kA} {R:Type}

def one (tt:dO) (E:Env R) (S:Option (Bool × List Nat)) (base:Nat) (all:List Oper) (o:Oper) (id:Nat) (st:St) (k:St→Option R):Option R :=
  vN all o st (fun st=>bif Hy tt E base S all o (ev st.fr) st.hp then zO tt E (XO tt S base o) id o st k else none) (fun st=>k ⟨mX st.fr o.dst (.tuple []),st.hp⟩)

abbrev wA:=Nat × Oper × Nat

def E8 (tt:dO) (E:Env R) (S:Option (Bool × List Nat)) (base:Nat) (all:List Oper):List wA→St→(St→Option R)→Option R
  | [],st,k=>k st
  | x::rest,st,k=>one tt E S base all x.2.1 x.2.2 st fun st=>E8 tt E S base all rest st k

def number (tt:dO):List Oper→Nat→Nat→List wA
  | [],_,_ => []
  | o::rest,i,id=>(i,o,id)::number tt rest (i+1) (if cm tt o then id+1 else id)

theorem Qs {E:Env R} {base:Nat} {all:List Oper}:∀(l:List Oper) (i id:Nat) (st:St) (k:St→Option R),
    L5 tt E (some base) all l id st k=E8 tt E none base all (number tt l i id) st k
  | [],_,_,_,_=>rfl
  | o::l,i,id,st,k=>by
    simp only[L5,D6,number,E8,one,Hy,XO,cond_true]
    congr 1
    · funext st
      congr 1
      funext st
      exact Qs l _ _ _ _
    · funext st
      exact Qs l _ _ _ _

theorem LG {E:Env R} {A:Bool × List Nat} {base:Nat} {all:List Oper}:∀(l:List Oper) (i id:Nat) (st:St) (k:St→Option R),
    Rf tt E base A all l id st k=E8 tt E (some A) base all (number tt l i id) st k
  | [],_,_,_,_=>rfl
  | o::l,i,id,st,k=>by
    simp only[Rf,D6,number,E8,one]
    congr 1
    · funext st
      congr 1
      congr 1
      funext st
      exact LG l _ _ _ _
    · funext st
      exact LG l _ _ _ _

theorem Qt {S:Option (Bool × List Nat)} {base:Nat} {o:Oper} (h:fB tt o.op ≠ .W):XO tt S base o=some base:=by
  unfold XO
  split
  · split
    · rename_i hc; exact (h hc).elim
    · rfl
  · rfl
theorem RU {S:Option (Bool × List Nat)} {base:Nat} {o:Oper} (h:S.map (·.1)≠some true):XO tt S base o=some base:=by
  unfold XO
  split
  · exact (h rfl).elim
  · rfl

structure Va where
  dst:Option Nat
  v:V
  put:Option (Nat × ca)

def Va.hp (e:Va) (h:az):az:=match e.put with|none=>h|some (i,ob)=>h.set i ob
def eff (st:St) (e:Va):St:=⟨mX st.fr e.dst e.v,e.hp st.hp⟩

theorem Pd {fr:List V} {dst:Option Nat} {v:V} {t:Nat} (h:dst≠some t):(mX fr dst v).getD t .undef=fr.getD t .undef:=by
  cases dst with
  | none=>rfl
  | some d =>
    have:d≠t:=fun e=>h (by rw[e])
    simp[mX,List.getD,List.getElem?_set_ne this]

theorem WG {fr:List V} {x y:Option Nat} {u v:V} (h:∀d,x=some d→y≠some d):mX (mX fr x u) y v=mX (mX fr y v) x u:=by
  cases x with
  | none=>rfl
  | some d =>
    cases y with
    | none=>rfl
    | some e =>
      have:d≠e:=fun he=>h d rfl (by rw[he])
      simp only[mX]
      exact List.set_comm _ _ this

theorem DG {fr WH:List V} {o:Oper} {all:List Oper} (h:∀t∈looks all o,WH.getD t .undef=fr.getD t .undef):∀x∈o.op.operands,ev WH x=ev fr x:=by
  intro x hx
  cases x with
  | tmp t=>exact h t (List.mem_append_left _ (List.mem_filterMap.2 ⟨.tmp t,by simpa using hx,rfl⟩))
  | _=>rfl

theorem MB {fr WH:List V} {hp XS:az} {o:Oper} {all:List Oper} (h:∀t∈looks all o,WH.getD t .undef=fr.getD t .undef) {run skip run' MC:St→Option R}
    (hr:run' ⟨WH,XS⟩=run ⟨fr,hp⟩) (hs:MC ⟨WH,XS⟩=skip ⟨fr,hp⟩):vN all o ⟨WH,XS⟩ run' MC=vN all o ⟨fr,hp⟩ run skip:=by
  rw[BP,BP]
  cases hg:o.guard with
  | none=>exact hr
  | some jw =>
    obtain ⟨j,want⟩:=jw
    simp only
    cases hd:(all[j]?).bind (·.dst)with
    | none=>rfl
    | some d =>
      have:=h d (by
        refine List.mem_append_right _ ?_
        simp only[hg,hd]
        simp)
      simp only[this,hr,hs]

theorem RV {o:Op} {ρ:Operand→V} {lim:Option Nat} {h2:az} (e:∀i∈wZ o ρ,EV lim i=true→(h2.at i).rd=(h.at i).rd) {k:V→Option R}:VQ tt o ρ h2 lim k=VQ tt o ρ h lim k:=by
  have e':∀i∈wZ o ρ,EV lim i=true→h2.at i=h.at i∨((h2.at i = .tok∨h2.at i = .dead∨h2.at i = .free)∧(h.at i = .tok∨h.at i = .dead∨h.at i = .free)):=fun i hm hi=>RP (e i hm hi)
  clear e
  cases o <;> simp only[VQ]
  case load t x =>
    split
    · rename_i i o hx
      split
      · rename_i hl
        rcases e' i (by simp[wZ,hx,V.ids]) hl with h1|⟨h1|h1|h1,g2|g2|g2⟩ <;> (first|(simp only[h1,g2]; done)|(simp only[h1]; done)|rfl|(simp only[h1,g2]; (repeat' split) <;> first|rfl|contradiction|simp_all))
      · rfl
    · rfl
    · rename_i i _ _ _ hx
      split
      · rename_i hl
        rcases e' i (by simp[wZ,hx,V.ids]) hl with h1|⟨h1|h1|h1,g2|g2|g2⟩ <;> (first|(simp only[h1,g2]; done)|(simp only[h1]; done)|(simp only[h1,g2]; (repeat' split) <;> first|rfl|contradiction|simp_all))
      · rfl
    · rfl
  case lookup t x ix ok =>
    split
    · rename_i kt vt i _ hx
      split
      · rename_i hl
        rcases e' i (by simp[wZ,hx,V.ids]) hl with h1|⟨h1|h1|h1,g2|g2|g2⟩ <;> (first|simp only[h1,g2]|simp only[h1])
      · rfl
    · rfl
  case convert s d x =>
    split
    · rename_i i _ _ _ hx
      split
      · rename_i hl
        rcases e' i (by simp[wZ,hx,V.ids]) hl with h1|⟨h1|h1|h1,g2|g2|g2⟩ <;> (first|(simp only[h1,g2]; done)|(simp only[h1]; done)|(simp only[h1,g2]; (repeat' split) <;> first|rfl|contradiction|simp_all))
      · rfl
    · rfl
    · rfl
    · rfl

def CU (S:Option (Bool × List Nat)) (E:Env R) (all:List Oper) (tt:dO) (base:Nat) (x:Oper) (st Ct:St):Prop :=
  (∀t∈looks all x,Ct.fr.getD t .undef=st.fr.getD t .undef)∧(fB tt x.op = .R→∀i,i<base→(∀A,S=some (true,A)→VS tt E all x=true→i∈A)→(∀A,S=some (false,A)→OV tt E all x=true→i∉A)→(Ct.hp.at i).rd=(st.hp.at i).rd)

def turns (tt:dO) (E:Env R) (o:Op):Prop:=(ew tt E o = .W∧pO o=false)∨(ew tt E o = .F∧mY E o=false)

def Kept (S:Option (Bool × List Nat)) (tt:dO) (E:Env R) (all:List Oper) (base:Nat) (o:Oper) (h h':az):Prop :=
  (∀i,i<base→(h'.at i).rd=(h.at i).rd)∨((turns tt E o.op∨(S.map (·.1)=some true∧pO o.op=true))∧(ew tt E o.op = .F→∀A,S=some (true,A)→∀i∈A,(h'.at i).rd=(h.at i).rd)∧(lu all o=true→∀A,S=some (false,A)→∀i,i∉A→(h'.at i).rd=(h.at i).rd))

theorem rP {E:Env R} {o:Op} (h:fB tt o ≠ .C):ew tt E o=fB tt o:=by
  unfold ew
  split
  · rename_i hc; exact (h hc).elim
  · rfl

def calm (a:Cls):Bool:=match a with | .P | .R | .A=>true|_=>false

theorem Ov {o:Op} {ρ ρ':Operand→V} (h:∀x∈o.operands,ρ' x=ρ x):wZ o ρ'=wZ o ρ:=by
  cases o <;> simp only[wZ] <;> rw[h _ (by simp[Op.operands])]
theorem MD {o:Op} {ρ ρ':Operand→V} (h:∀x∈o.operands,ρ' x=ρ x):BV o ρ'=BV o ρ:=by
  cases o <;> simp only[BV] <;> rw[h _ (by simp[Op.operands])]
theorem Ow {o:Op} {ρ ρ':Operand→V} {hp:az} (h:∀x∈o.operands,ρ' x=ρ x):np o ρ' hp=np o ρ hp:=by
  unfold np
  split
  · rename_i cl
    split
    · rename_i f hf
      have e1:ρ' f=ρ f:=h f (by simp[Op.operands,Call.operands,hf])
      have e2:cl.args.toList.map ρ'=cl.args.toList.map ρ:=List.map_congr_left fun z hz=>h z (by simp[Op.operands,Call.operands]; exact .inr (by simpa using hz))
      rw[e1,e2]
    · rfl
  · rfl
theorem Pe {E:Env R} {base:Nat} {S:Option (Bool × List Nat)} {all:List Oper} {x:Oper} {fr WH:List V} {hp:az} (h:∀t∈looks all x,WH.getD t .undef=fr.getD t .undef):Hy tt E base S all x (ev WH) hp=Hy tt E base S all x (ev fr) hp:=by
  cases S with
  | none=>rfl
  | some A=>obtain ⟨m,A⟩:=A; cases m <;> simp only[Hy] <;> rw[Ov (DG h),MD (DG h)] <;> rw[Ow (DG h)]
theorem YB {E:Env R} {base:Nat} {S:Option (Bool × List Nat)} {all:List Oper} {x:Oper} {fr WH:List V} {hp XS:az} (hc:calm (fB tt x.op)=true) (h:∀t∈looks all x,WH.getD t .undef=fr.getD t .undef):Hy tt E base S all x (ev WH) XS=Hy tt E base S all x (ev fr) hp:=by
  rw[Pe (fr:=fr) h]
  cases S with
  | none=>rfl
  | some A =>
    obtain ⟨m,A⟩:=A
    cases m <;> simp only[Hy] <;> revert hc <;> cases fB tt x.op <;> simp[calm]

theorem Vb {E:Env R} {S:Option (Bool × List Nat)} {base:Nat} {all:List Oper} {x:Oper} {id:Nat} {st:St} {k0:St→Option R} {r:R} (hc:calm (fB tt x.op)=true) (hk:one tt E S base all x id st k0=some r) :
    ∃e:Va,e.dst=x.dst∧(∀i ob,e.put=some (i,ob)→i=id∧fB tt x.op = .A)∧k0 (eff st e)=some r∧∀Ct,CU S E all tt base x st Ct→∀k,one tt E S base all x id Ct k=k (eff Ct e):=by
  unfold one at hk ⊢
  -- the guard says the same
  have hgu:∀Ct,CU S E all tt base x st Ct→∀(run skip:St→Option R),vN all x Ct run skip=vN all x st (fun _=>run Ct) (fun _=>skip Ct):=by
    intro Ct ha run skip
    obtain ⟨fr,hp⟩:=st
    obtain ⟨fr2,hp2⟩:=Ct
    exact MB ha.1 rfl rfl
  have Yo:∀run skip:St→Option R,(∀run' MC:St→Option R,vN all x st run' MC=run' st)∨(∀run' MC:St→Option R,vN all x st run' MC=MC st)∨vN all x st run skip=none:=by
    intro run skip
    simp only[BP]
    cases x.guard with
    | none=>exact .inl fun _ _=>rfl
    | some jw =>
      obtain ⟨j,want⟩:=jw
      simp only
      cases (all[j]?).bind (·.dst)with
      | none=>exact .inr (.inr rfl)
      | some d =>
        simp only
        cases st.fr.getD d .undef with
        | bool b=>by_cases hb:b=want <;> simp[hb]
        | tuple vs =>
          cases vs with
          | nil=>exact .inr (.inl fun _ _=>rfl)
          | cons _ _=>exact .inr (.inr rfl)
        | _=>exact .inr (.inr rfl)
  rcases Yo _ _ with hg|hg|hg
  · rw[hg]at hk
    obtain ⟨hS,hk⟩:Hy tt E base S all x (ev st.fr) st.hp=true∧zO tt E (XO tt S base x) id x st k0=some r:=by
      cases hS:Hy tt E base S all x (ev st.fr) st.hp with
      | true=>rw[hS]at hk; exact ⟨rfl,hk⟩
      | false=>rw[hS]at hk; cases hk
    have hnW:fB tt x.op ≠ .W:=fun e=>by rw[e]at hc; cases hc
    rw[Qt hnW]at hk ⊢
    have hS2:∀Ct,CU S E all tt base x st Ct→Hy tt E base S all x (ev Ct.fr) Ct.hp=true:=fun Ct ha=>by rw[←hS]; exact YB hc ha.1
    unfold zO at hk
    simp only at hk
    split at hk
    · rename_i B0
      obtain ⟨v,h1,h2⟩:=opP_nat hk
      refine ⟨⟨x.dst,v,none⟩,rfl,by simp,h1,fun Ct ha k => ?_⟩
      rw[hgu Ct ha,hg,hS2 Ct ha,cond_true]
      simp only[zO,B0]
      rw[O6 (DG ha.1),h2]
      rfl
    · rename_i B0
      obtain ⟨v,h1,h2⟩:=opR_nat hk
      refine ⟨⟨x.dst,v,none⟩,rfl,by simp,h1,fun Ct ha k => ?_⟩
      rw[hgu Ct ha,hg,hS2 Ct ha,cond_true]
      simp only[zO,B0]
      rw[O7 (DG ha.1),RV (h:=st.hp) fun i hm hi=>ha.2 B0 i (by simpa [EV]using hi) (fun A hA hf => ?_) fun A hA hf => ?_,h2 _ fun i hi=>rfl]
      · rfl
      · subst hA
        simp only[Hy,B0,hf,Bool.not_true,Bool.false_or,List.all_eq_true]at hS
        simpa using hS i hm
      · subst hA
        simp only[Hy,B0,hf,Bool.not_true,Bool.false_or,List.all_eq_true]at hS
        simpa using hS i hm
    · rename_i B0
      obtain ⟨ob,mk,h1,h2⟩:=opA_nat hk
      refine ⟨⟨x.dst,mk id,some (id,ob)⟩,rfl,by simp[B0],h1,fun Ct ha k => ?_⟩
      rw[hgu Ct ha,hg,hS2 Ct ha,cond_true]
      simp only[zO,B0]
      rw[O8 (DG ha.1),h2]
      rfl
    all_goals (rename_i B0; rw[B0]at hc; cases hc)
  · rw[hg]at hk
    refine ⟨⟨x.dst, .tuple [],none⟩,rfl,by simp,hk,fun Ct ha k => ?_⟩
    rw[hgu Ct ha,hg]
    rfl
  · rw[hg]at hk; cases hk

theorem apart_spec {all:List Oper} {x y:Oper} (h:yu all x y=true) :
    (∀d,x.dst=some d→d∉looks all y)∧(∀d,x.dst=some d→y.dst≠some d)∧(∀d,y.dst=some d→d∉looks all x):=by
  refine ⟨fun d hd => ?_,fun d hd => ?_,fun d hd => ?_⟩ <;> simp[yu,hd]at h
  · exact h.1.1
  · exact h.1.2
  · exact h.2

theorem Eh {fr:List V} {c:Value} {g:Nat} {a b:List V} (h:ev fr (.const c) = .func g a b):False:=by
  simp only[ev]at h
  unfold ofConst at h
  split at h
  · cases h
  · unfold FB at h
    split at h <;> (try split at h) <;> cases h


theorem HJ {i:Nat}:∀(n:Nat) (todo seen:List Nat),i∈seen→i∈reach h n todo seen
  | 0,_,_,hi=>hi
  | _+1, [],_,hi=>hi
  | n+1,j::todo,seen,hi=>by
    unfold reach
    split
    · exact HJ n _ _ hi
    · exact HJ n _ _ (by simp[hi])
theorem Gv {i:Nat} {ob:ca}:∀(n:Nat) (todo seen:List Nat),i∉reach h n todo seen→reach (h.set i ob) n todo seen=reach h n todo seen
  | 0,_,_,_=>rfl
  | _+1, [],_,_=>rfl
  | n+1,j::todo,seen,hi=>by
    unfold reach at hi ⊢
    split
    · rename_i hc
      rw[if_pos hc]at hi
      exact Gv n _ _ hi
    · rename_i hc
      rw[if_neg hc]at hi
      have km:i≠j:=by
        rintro rfl
        exact hi (HJ n _ _ (by simp))
      rw[de _ km]
      exact Gv n _ _ hi
theorem set_set {i:Nat} {ob:ca}:(h.set i ob).set i (h.at i)=h:=by
  rw[List.set_set]
  apply List.ext_getElem?
  intro j
  rw[List.getElem?_set]
  split
  · rename_i e
    subst e
    split
    · rename_i hl
      simp[az.at,List.getD,List.getElem?_eq_getElem hl]
    · rename_i hl
      exact (List.getElem?_eq_none (by omega)).symm
  · rfl
theorem KF {o:Op} {ρ:Operand→V} {i:Nat} {ob:ca} (hi:i∉np o ρ h):np o ρ (h.set i ob)=np o ρ h:=by
  unfold np at hi ⊢
  split at hi <;> try rfl
  split at hi <;> try rfl
  split at hi <;> try rfl
  exact Gv _ _ _ hi
theorem Qu {o:Op} {ρ:Operand→V} {i:Nat} {ob:ca} (hi:i∉np o ρ (h.set i ob)):np o ρ (h.set i ob)=np o ρ h:=by
  have h1:=KF (ob:=h.at i) hi
  rw[set_set]at h1
  exact h1.symm
theorem YC {i:Nat} {ob:ca} {ord:List Nat} (hi:i∉ord):az.pick (h.set i ob) ord=h.pick ord:=by
  unfold az.pick
  refine List.map_congr_left fun j hj => ?_
  rw[de _ (by rintro rfl; exact hi hj)]
theorem ME {i:Nat} {ob:ca}:∀(l:List (Nat × ca)) (h:az),(∀x∈l,x.1≠i)→az.Ao (h.set i ob) l=(az.Ao h l).set i ob
  | [],_,_=>rfl
  | x::l,h,hl=>by
    simp only[az.Ao]
    rw[List.set_comm _ _ (Ne.symm (hl x (by simp)))]
    exact ME l _ fun y hy=>hl y (by simp[hy])
theorem YD {i:Nat} {ob:ca} {ord:List Nat} (hi:i∉ord) (hl:i<h.length) (h':az):az.back (h.set i ob) ord h'=(h.back ord h').set i ob:=by
  unfold az.back
  simp only[List.length_set]
  rw[ME _ _ fun x hx=>by
    have:=(List.of_mem_zip hx).1
    rintro rfl
    exact hi this]
  rw[List.set_append_left _ _ (by rw[fW]; exact hl)]
theorem WI {E:Env R} {cl:Call} (hp:oC E (.call cl)=false) (hs:mY E (.call cl)=false) {full:Bool} {fr:List V} {i:Nat} {ob:ca} (hi:i∉np (.call cl) (ev fr) h) (hl:i<h.length) {k:V→az→Option R} :
    yq tt E full cl (ev fr) (h.set i ob) k=yq tt E full cl (ev fr) h fun v h'=>k v (h'.set i ob):=by
  unfold yq
  split
  · rename_i f hf
    split
    · rename_i g first cap hg
      simp only
      have Mx:np (.call cl) (ev fr) h=reach h 64 (V.s6 (first++cl.args.toList.map (ev fr)++cap)) []:=by simp only[np,hf,hg]
      rw[Mx]at hi
      split
      · exfalso
        rename_i Qm
        cases f with
        | tmp t=>simp[oC,hf]at hp
        | func g' =>
          simp only[ev,V.func.injEq]at hg
          obtain ⟨rfl,_,_⟩:=hg
          simp[oC,hf,Qm]at hp
        | const c=>exact Eh hg
        | global _=>simp[ev]at hg
      · rename_i sp Qm
        cases full
        · rfl
        · simp only[cond_true]
          cases hg0:oZ.soft g with
          | true =>
            exfalso
            cases f with
            | tmp t=>simp[oC,hf]at hp
            | func g' =>
              simp only[ev,V.func.injEq]at hg
              obtain ⟨rfl,_,_⟩:=hg
              simp[mY,hf,hg0,Qm]at hs
            | const c=>exact Eh hg
            | global _=>simp[ev]at hg
          | false =>
            simp only[cond_false]
            rw[Gv _ _ _ hi,YC hi]
            congr 1
            funext v h'
            rw[YD hi hl,List.length_set]
      · rfl
    · rfl
  · rfl

theorem RW {E:Env R} {cl:Call} {full:Bool} {ρ ρ':Operand→V} (TL:∀z∈cl.operands,ρ' z=ρ z) {k:V→az→Option R}:yq tt E full cl ρ' h k=yq tt E full cl ρ h k:=by
  have Vc:cl.args.toList.map ρ'=cl.args.toList.map ρ:=List.map_congr_left fun z hz=>TL z (by simp[Call.operands]; exact .inr (by simpa using hz))
  unfold yq
  split
  · rename_i f hf
    rw[TL f (by simp[Call.operands,hf]),Vc]
  · rfl

theorem Vd {E:Env R} {S:Option (Bool × List Nat)} {base:Nat} {all:List Oper} {x y:Oper} {e:Va} {ix id:Nat} (Fz:Hc (ew tt E x.op) (ew tt E y.op)=true∨(pO y.op=true∧S.map (·.1)≠some true∧(cm tt x=true→id<ix))∨(fB tt x.op = .R∧pO y.op=true)∨(fB tt x.op = .R∧mY E y.op=true)∨(fB tt x.op = .R∧ew tt E y.op = .F)∨(fB tt x.op = .A∧S.map (·.1)=some true∧ew tt E y.op = .F∧mY E y.op=false)∨(fB tt x.op = .R∧fB tt y.op = .W)) (hap:yu all x y=true) (hc:calm (fB tt x.op)=true) (he:e.dst=x.dst)
    (RX:∀i ob,e.put=some (i,ob)→i=ix∧fB tt x.op = .A) (hid:cm tt x=true→cm tt y=true→ix≠id) (hb:cm tt x=true→base≤ix) (ht:cm tt x=true→ix<base+(all.filter (cm tt)).length) (st:St) (k:St→Option R) :
    one tt E S base all y id (eff st e) k=one tt E S base all y id st fun JX=>k (eff JX e):=by
  obtain ⟨a1,a2,a3⟩:=apart_spec hap
  have hl:∀t∈looks all y,(mX st.fr e.dst e.v).getD t .undef=st.fr.getD t .undef:=fun t ht=>Pd fun h=>a1 t (he▸h) ht
  have KG:∀u,mX (mX st.fr e.dst e.v) y.dst u=mX (mX st.fr y.dst u) e.dst e.v:=fun u=>WG fun d hd=>a2 d (he▸hd)
  obtain ⟨fr,WJ⟩:=st
  simp only at hl KG
  have hokS:Hy tt E base S all y (ev (mX fr e.dst e.v)) (e.hp WJ)=Hy tt E base S all y (ev fr) WJ:=by
    rw[Pe hl]
    match S,Fz with
    | none,_=>rfl
    | some (false,A),_=>simp only[Hy]
    | some (true,A),Fz =>
      simp only[Hy]
      split
      · rfl
      · rename_i B1
        cases hf:XM tt E y.op with
        | false=>rfl
        | true =>
          have hF:ew tt E y.op = .F:=by revert hf; unfold XM; cases ew tt E y.op <;> simp
          cases hq:e.put with
          | none=>simp only[Va.hp,hq]
          | some jo =>
            obtain ⟨j,ob⟩:=jo
            obtain ⟨rfl,hA⟩:=RX j ob hq
            have hna:pO y.op=true→False:=fun ha=>by rw[CT ha]at B1; cases B1
            rcases Fz with Fz|⟨h,_⟩|⟨_,h⟩|⟨h,_⟩|⟨h,_⟩|⟨_,_,_,hsf⟩|⟨h,_⟩
            · rw[rP (by rw[hA]; simp),hF,hA]at Fz
              cases Fz
            · exact (hna h).elim
            · exact (hna h).elim
            · rw[hA]at h; cases h
            · rw[hA]at h; cases h
            · simp only[Va.hp,hq,hsf,Bool.not_true,Bool.false_or,List.length_set]
              have hbj:=hb (by simp[cm,hA])
              by_cases hm:j∈np y.op (ev fr) WJ
              · have hm2:j∈np y.op (ev fr) (WJ.set j ob):=by
                  by_cases hm2:j∈np y.op (ev fr) (WJ.set j ob)
                  · exact hm2
                  · rw[Qu hm2]; exact hm
                have Rt:∀l:List Nat,j∈l→l.all (fun i=>Nat.blt i base)=false:=fun l hl=>by
                  rw[List.all_eq_false]
                  exact ⟨j,hl,by simpa using hbj⟩
                rw[Rt _ hm,Rt _ hm2]
                simp
              · rw[KF hm]
            · rw[hA]at h; cases h
      · rfl
      · rfl
  unfold one
  refine MB hl ?_ ?_
  · simp only[eff]
    rw[hokS]
    cases hS:Hy tt E base S all y (ev fr) WJ with
    | false=>rfl
    | true =>
    simp only[cond_true]
    unfold zO
    simp only
    split
    · rw[O6 (DG hl)]
      simp only[KG]
    · rename_i B1
      rw[Qt (by rw[B1]; simp),O7 (DG hl),RV (h:=WJ)]
      · simp only[KG]
      · intro i _ hi
        unfold Va.hp
        split
        · rfl
        · rename_i j ob hj
          obtain ⟨rfl,hA⟩:=RX _ _ hj
          have:=hb (by simp[cm,hA])
          simp[EV]at hi
          rw[de _ (by omega)]
    · rename_i B1
      rw[O8 (DG hl)]
      simp only[KG]
      congr 1
      funext ob mk
      congr 2
      unfold Va.hp
      split
      · rfl
      · rename_i j ob' hj
        obtain ⟨rfl,hA⟩:=RX _ _ hj
        exact List.set_comm _ _ (hid (by simp[cm,hA]) (by simp[cm,B1]))
    · rename_i B1
      rw[Qp (DG hl)]
      cases Qq:((XO tt S base y).isSome && !vM y.op (ev fr) id)with
      | true=>rfl
      | false =>
        simp only[cond_false]
        cases hq:e.put with
        | none =>
          rw[O9 (DG hl)]
          simp only[KG,Va.hp,hq]
        | some jo =>
          obtain ⟨j,ob⟩:=jo
          obtain ⟨rfl,hA⟩:=RX j ob hq
          have hy:pO y.op=true∧S.map (·.1)≠some true∧id<j:=by
            rcases Fz with h|⟨h,h3,h2⟩|⟨h,_⟩|⟨h,_⟩|⟨h,_⟩|⟨_,_,h,_⟩|⟨h,_⟩
            · rw[rP (by rw[hA]; simp),rP (by rw[B1]; simp),hA,B1]at h; cases h
            · exact ⟨h,h3,h2 (by simp[cm,hA])⟩
            · rw[hA]at h; cases h
            · rw[hA]at h; cases h
            · rw[hA]at h; cases h
            · rw[rP (by rw[B1]; simp),B1]at h; cases h
            · rw[hA]at h; cases h
          rw[O9 (DG hl)]
          simp only[KG,Va.hp,hq]
          have YE:vM y.op (ev fr) id=true:=by rw[RU hy.2.1]at Qq; simpa using Qq
          exact opW_set hy.1 YE hy.2.2
    · rename_i B1
      rw[Qt (by rw[B1]; simp)]
      split
      · rename_i cl hcl'
        simp only[KG]
        have TL:∀z∈cl.operands,ev (mX fr e.dst e.v) z=ev fr z:=fun z hz=>DG hl z (by rw[hcl']; exact hz)
        have Vc:cl.args.toList.map (ev (mX fr e.dst e.v))=cl.args.toList.map (ev fr):=List.map_congr_left fun z hz=>TL z (by simp[Call.operands]; exact .inr (by simpa using hz))
        cases XP:oC E y.op with
        | true =>
          have YF:(Option.isNone (some base) || !true)=false:=rfl
          rw[hcl']at XP
          rw[YF]
          unfold yq
          split
          · rename_i f hf
            rw[TL f (by simp[Call.operands,hf]),Vc]
            split
            · split
              · simp only[cond_false]
              · rfl
              · rfl
            · rfl
          · rfl
        | false =>
          have hF:ew tt E y.op = .F:=by unfold ew; rw[B1]; simp[XP]
          rw[RW TL]
          cases hq:e.put with
          | none =>
            have hh2:∀h2,e.hp h2=h2:=fun h2=>by simp[Va.hp,hq]
            simp only[hh2]
          | some jo =>
            obtain ⟨j,ob⟩:=jo
            obtain ⟨rfl,hA⟩:=RX j ob hq
            have hna:pO y.op=true→False:=fun ha=>by rw[CT ha]at B1; cases B1
            rcases Fz with Fz|⟨h,_⟩|⟨_,h⟩|⟨h,_⟩|⟨h,_⟩|⟨_,h2,_,hsf⟩|⟨h,_⟩
            · rw[rP (by rw[hA]; simp),hF,hA]at Fz
              cases Fz
            · exact (hna h).elim
            · exact (hna h).elim
            · rw[hA]at h; cases h
            · rw[hA]at h; cases h
            · have hh2:∀h2,e.hp h2=h2.set j ob:=fun h2=>by simp[Va.hp,hq]
              simp only[hh2]
              have hif:XM tt E y.op=true:=by unfold XM; rw[hF]
              match S,h2,hS with
              | some (true,A),_,hS =>
                simp only[Hy,B1,hif,hsf,Bool.not_true,Bool.false_or,Bool.and_eq_true,List.all_eq_true]at hS
                have hbj:=hb (by simp[cm,hA])
                have htj:=ht (by simp[cm,hA])
                have h3:base+(all.filter (cm tt)).length≤WJ.length:=by simpa using hS.1.1
                rw[hcl']at XP hsf
                refine WI XP hsf (fun hm => ?_) (by omega)
                have h4:=hS.1.2 j (by rw[hcl']; exact hm)
                simp at h4
                omega
            · rw[hA]at h; cases h
      · rfl
    · rfl
    · rfl
  · simp only[eff,KG]

theorem TM {E:Env R} (hE:p6 P E) {cl:Call} (hs:mY E (.call cl)=true) {full:Bool} {fr:List V} {k k':V→az→Option R} (he:∀v,k v h=k' v h) :
    yq tt E full cl (ev fr) h k=yq tt E full cl (ev fr) h k':=by
  unfold mY at hs
  simp only at hs
  split at hs
  · rename_i g hg
    simp only[Bool.and_eq_true]at hs
    obtain ⟨h1,h2⟩:=hs
    split at h2
    · rename_i sp Qm
      unfold yq
      simp only[hg,ev,Qm,h1]
      cases full
      · rfl
      · simp only[cond_true]
        exact (hE g _ sp Qm).2 rfl h1 _ _ _ _ he
    · cases h2
  · cases hs

theorem TN {E:Env R} {cl:Call} (hp:oC E (.call cl)=false) (hs:mY E (.call cl)=false) {full:Bool} {fr:List V} {k k':V→az→Option R}
    (he:∀v h',(∀i,i<h.length→i∉np (.call cl) (ev fr) h→h'.at i=h.at i)→k v h'=k' v h') (h0:∀v,k v h=k' v h):yq tt E full cl (ev fr) h k=yq tt E full cl (ev fr) h k':=by
  unfold yq
  split
  · rename_i f hf
    split
    · rename_i g first cap hg
      simp only
      split
      · split
        · congr 1
          funext v h'
          cases h' with
          | nil=>exact h0 v
          | cons _ _=>rfl
        · cases full
          · rfl
          · simp only[cond_true]
            unfold X7
            split
            · congr 1
              funext v h'
              cases h' with
              | nil=>simp only[h0]
              | cons _ _=>rfl
            · rfl
      · rename_i sp Qm
        cases full
        · rfl
        · simp only[cond_true]
          cases hg0:oZ.soft g with
          | true =>
            exfalso
            cases f with
            | tmp t=>simp[oC,hf]at hp
            | func g' =>
              simp only[ev,V.func.injEq]at hg
              obtain ⟨rfl,_,_⟩:=hg
              simp[mY,hf,hg0,Qm]at hs
            | const c=>exact Eh hg
            | global _=>simp[ev]at hg
          | false =>
            simp only[cond_false]
            congr 1
            funext v h'
            refine he _ _ fun i hi hn => ?_
            unfold az.back
            simp only
            rw[ly (by rw[fW]; exact hi)]
            refine Ef _ _ _ ?_
            simpa only[np,hf,hg]using hn
      · rfl
    · rfl
  · rfl

theorem BQ {all:List Oper} {x:Oper} (h:lu all x=true∨rM all x=true):∃t a y,x.op = .store t a y∧x.dst=none∧x.guard=none:=by
  rcases h with h|h
  · unfold lu at h
    split at h
    · rename_i ho
      simp only[Bool.and_eq_true,Option.isNone_iff_eq_none]at h
      exact ⟨_,_,_,ho,h.1.1,h.1.2⟩
    · cases h
  · unfold rM at h
    split at h
    · rename_i ho
      simp only[Bool.and_eq_true,Option.isNone_iff_eq_none]at h
      exact ⟨_,_,_,ho,h.1.1,h.1.2⟩
    · cases h
theorem Gw {all:List Oper} {x y:Oper} (h:Ta all x y=true):(lu all x=true∧rM all y=true)∨(rM all x=true∧lu all y=true):=by
  simpa only[Ta,Bool.or_eq_true,Bool.and_eq_true]using h
theorem DH {all:List Oper} {x y:Oper} (h:Ta all x y=true):fB tt x.op = .W∧fB tt y.op = .W:=by
  have h1:∀z,lu all z=true∨rM all z=true→fB tt z.op = .W:=fun z hz=>by
    obtain ⟨t,a,y,e,_⟩:=BQ hz
    rw[e]; rfl
  rcases Gw h with ⟨h2,h3⟩|⟨h2,h3⟩
  · exact ⟨h1 _ (.inl h2),h1 _ (.inr h3)⟩
  · exact ⟨h1 _ (.inr h2),h1 _ (.inl h3)⟩
theorem KH (t:Nat) (a y:Operand) (ρ:Operand→V) (h:az) (id:Nat) :
    (∀k:V→az→Option R,Lz tt (.store t a y) ρ h id k=none)∨∃i ob,i∈(ρ a).ids∧∀(h2:az) (id2:Nat) (k:V→az→Option R),h2.at i=h.at i→Lz tt (.store t a y) ρ h2 id2 k=k .undef (h2.set i ob):=by
  simp only[Lz]
  cases hvs:OT (ρ y)with
  | none=>exact .inl fun k=>rfl
  | some vs =>
  simp only
  by_cases hc:(tt.ok t&&decide (vs.length=(tt.at t).size))=true
  rotate_left
  · exact .inl fun k=>by rw[if_neg hc]
  simp only[hc,if_true]
  cases hx:ρ a with
  | ptr i o =>
    simp only
    cases hi:h.at i with
    | cells cs =>
      by_cases hle:o+vs.length≤cs.length
      · exact .inr ⟨i, .cells (Aq cs o vs),by simp[V.ids],fun h2 id2 k e=>by simp only[e,hi,hle,if_true]⟩
      · exact .inl fun k=>by simp only[hle,if_false]
    | kW bv =>
      match o,vs with
      | 1, [v]=>exact .inr ⟨i, .kW v,by simp[V.ids],fun h2 id2 k e=>by simp only[e,hi]⟩
      | 0,_=>exact .inl fun k=>rfl
      | 1, []=>exact .inl fun k=>rfl
      | 1,_::_::_=>exact .inl fun k=>rfl
      | _+2,_=>exact .inl fun k=>rfl
    | _=>exact .inl fun k=>rfl
  | tJ i sz j o =>
    simp only
    cases hi:h.at i with
    | row T l =>
      by_cases qL:sz=T.sz
      · by_cases hle:o+vs.length≤(T.cells (l.getD j T.cn)).length
        · cases hz:T.dec (Aq (T.cells (l.getD j T.cn)) o vs)with
          | none=>exact .inl fun k=>by simp only[qL,hle,if_true,hz]
          | some z =>
            by_cases hj:j<l.length
            · exact .inr ⟨i, .row T (l.set j z),by simp[V.ids],fun h2 id2 k e=>by simp only[e,hi,qL,hle,if_true,hz,cU,hj,decide_true,cond_true]⟩
            · exact .inl fun k=>by simp only[qL,hle,if_true,hz,cU,hj,decide_false,cond_false]
        · exact .inl fun k=>by simp only[qL,hle,if_true,if_false]
      · exact .inl fun k=>by simp only[qL,if_false]
    | _=>exact .inl fun k=>rfl
  | _=>exact .inl fun k=>rfl
theorem WK {t:Nat} {a y:Operand} {ρ:Operand→V} {id:Nat} {k0:V→az→Option R} {r:R} (hk:Lz tt (.store t a y) ρ h id k0=some r) :
    ∃i ob,i∈(ρ a).ids∧k0 .undef (h.set i ob)=some r∧∀(h2:az) (id2:Nat) (k:V→az→Option R),h2.at i=h.at i→Lz tt (.store t a y) ρ h2 id2 k=k .undef (h2.set i ob):=by
  rcases KH (tt:=tt) (R:=R) t a y ρ h id with h1|⟨i,ob,h1,h2⟩
  · rw[h1]at hk; cases hk
  · rw[h2 h id k0 rfl]at hk
    exact ⟨i,ob,h1,hk,h2⟩

theorem JY {E:Env R} (hE:p6 P E) {S:Option (Bool × List Nat)} {base:Nat} {all:List Oper} {y:Oper} {id:Nat} {st:St} {k k':St→Option R} (hb:cm tt y=true→base≤id)
    (h:∀v XS,Kept S tt E all base y st.hp XS→k ⟨mX st.fr y.dst v,XS⟩=k' ⟨mX st.fr y.dst v,XS⟩):one tt E S base all y id st k=one tt E S base all y id st k':=by
  have h0:∀v,k ⟨mX st.fr y.dst v,st.hp⟩=k' ⟨mX st.fr y.dst v,st.hp⟩:=fun v=>h v _ (.inl fun _ _=>rfl)
  obtain ⟨fr,WJ⟩:=st
  unfold one
  refine MB (fun _ _=>rfl) ?_ (h0 _)
  cases hS:Hy tt E base S all y (ev fr) WJ with
  | false=>rfl
  | true =>
  simp only[cond_true]
  unfold zO
  simp only at h h0 ⊢
  split
  · simp only[h0]
  · simp only[h0]
  · rename_i B1
    congr 1
    funext ob mk
    refine h _ _ (.inl fun i hi => ?_)
    have:=hb (by simp[cm,B1])
    rw[de _ (by omega)]
  · rename_i B1
    have hbi:=hb (by simp[cm,B1])
    cases Qq:((XO tt S base y).isSome && !vM y.op (ev fr) id)with
    | true=>rfl
    | false =>
      simp only[cond_false]
      by_cases ha:pO y.op=true
      · by_cases RY:S.map (·.1)=some true
        · congr 1
          funext v h'
          refine h v h' (.inr ⟨.inr ⟨RY,ha⟩,fun hF => ?_,fun hv => ?_⟩)
          · rw[rP (by rw[B1]; simp),B1]at hF; cases hF
          · obtain ⟨t,a,z,ey,_⟩:=BQ (.inl hv)
            rw[ey]at ha; cases ha
        have YE:vM y.op (ev fr) id=true:=by rw[RU RY]at Qq; simpa using Qq
        exact RT ha YE fun v h' hrd=>h v h' (.inl fun i hi=>hrd i (by omega))
      · have htu:turns tt E y.op := .inl ⟨by rw[rP (by rw[B1]; simp),B1],by simpa using ha⟩
        have hnF:ew tt E y.op ≠ .F:=fun hF=>by rw[rP (by rw[B1]; simp),B1]at hF; cases hF
        by_cases hv:lu all y=true
        · obtain ⟨t,a,z,ey,_,_⟩:=BQ (.inl hv)
          rw[ey]
          rcases KH (tt:=tt) (R:=R) t a z (ev fr) WJ id with h1|⟨i,ob,h1,h2⟩
          · rw[h1,h1]
          · rw[h2 WJ id _ rfl,h2 WJ id _ rfl]
            refine h _ _ (.inr ⟨.inl htu,fun hF=>(hnF hF).elim,fun _ A hA j hj => ?_⟩)
            subst hA
            simp only[Hy,B1,hv,Bool.not_true,Bool.false_or,List.all_eq_true]at hS
            have h3:=hS i (by rw[ey]; exact h1)
            rw[de _ (by rintro rfl; exact hj (by simpa using h3))]
        · congr 1
          funext v h'
          exact h v h' (.inr ⟨.inl htu,fun hF=>(hnF hF).elim,fun WL=>(hv WL).elim⟩)
  · rename_i B1
    rw[Qt (by rw[B1]; simp)]
    split
    · rename_i cl Fz
      cases XP:oC E y.op with
      | true =>
        have YF:(Option.isNone (some base) || !true)=false:=rfl
        rw[YF]
        unfold yq
        split
        · split
          · split
            · simp only
              split
              · congr 1
                funext v h'
                cases h' with
                | nil=>exact h0 v
                | cons _ _=>rfl
              · rfl
            · rfl
            · rfl
          · rfl
        · rfl
      | false =>
        have hF:ew tt E y.op = .F:=by unfold ew; rw[B1]; simp[XP]
        cases hs:mY E y.op with
        | true=>exact TM hE (by rw[←Fz]; exact hs) fun v=>h0 v
        | false =>
          have htu:turns tt E y.op := .inr ⟨hF,hs⟩
          refine TN (by rw[Fz]at XP; exact XP) (by rw[Fz]at hs; exact hs) (fun v h' hh=>h v h' (.inr ⟨.inl htu,fun _ A hA => ?_,fun hv => ?_⟩)) fun v=>h0 v
          rotate_left
          · obtain ⟨t,a,z,ey,_⟩:=BQ (.inl hv)
            rw[ey]at Fz; cases Fz
          subst hA
          have hif:XM tt E y.op=true:=by unfold XM; rw[hF]
          simp only[Hy,B1,hif,hs,Bool.not_true,Bool.false_or,List.all_eq_true,Bool.and_eq_true]at hS
          intro i hi
          have h1:=hS.2 i hi
          rw[Fz]at h1
          rw[hh i (by simpa using h1.1) (by simpa using h1.2)]
    · rfl
  · rfl
  · rfl
end

section
variable {P:Program} {tt:dO} {w w':World} {h h':az} {c c':kA} {R:Type}

theorem YG {o:Oper} {a:Act} {G:Prop} (h:o.wp P a w (fun _ _=>G) (fun _ _ _=>G)):G:=by
  unfold Oper.wp at h
  generalize (execOp a.eval o).run P w=r at h
  cases r with
  | ok n w' =>
    cases n <;> simp only[Oper.upon]at h <;> try (first|exact h|exact h.elim)
    · obtain ⟨e,w',fr,hR,_⟩:=h []
      cases e with
      | returned v=>exact hR
      | panicked c=>exact hR
      | outgrown=>obtain ⟨_,_,g⟩:=hR; exact g
    · obtain ⟨v,w',g,_⟩:=h (Frame.enter P 0 #[] .normal) []
      exact g
  | halt x w'=>cases x <;> simp only[Oper.upon]at h <;> first|exact h|exact h.elim

theorem WM (T:yb P tt) {E:Env R} (hE:p6 P E) {S:Option (Bool × List Nat)} {base:Nat} {ops:Array Oper} {y:Oper} {id:Nat} {st:St} {a:Act} {k:St→Option R} {r:R} (hk:one tt E S base ops.toList y id st k=some r) (iQ:HH w c st a)
    (hid:cm tt y=true→base≤id∧id<st.hp.length∧st.hp.at id = .free) :
    ∃w1 c1 JX a1 v,HH w1 c1 JX a1∧k JX=some r∧JX.fr=mX st.fr y.dst v∧Kept S tt E ops.toList base y st.hp JX.hp∧uc (cm tt y) id st.hp JX.hp:=by
  classical
  obtain ⟨k',rN,hof⟩:∃k':St→Option R,one tt E S base ops.toList y id st k'=some r∧∀JX,k' JX=some r→k JX=some r∧Kept S tt E ops.toList base y st.hp JX.hp:=by
    refine ⟨fun JX=>if Kept S tt E ops.toList base y st.hp JX.hp then k JX else none,?_,fun JX e => ?_⟩
    · rw[←hk]
      refine JY hE (fun ha=>(hid ha).1) fun v XS ht => ?_
      rw[if_pos ht]
    · simp only at e
      split at e
      · exact ⟨e, ‹_›⟩
      · cases e
  rcases Eg iQ rN with ⟨_,hk⟩|⟨_,hk⟩
  · have hk:zO tt E (XO tt S base y) id y st k'=some r:=by
      cases hS:Hy tt E base S ops.toList y (ev st.fr) st.hp with
      | true=>rw[hS]at hk; exact hk
      | false=>rw[hS]at hk; cases hk
    refine YG (P:=P) (o:=y) (a:=a) (w:=w) (FK T hE hk iQ (fun ha=>(hid ha).2) fun d w' tK c' v TK x kp hf _ _ rN => ?_)
    exact ⟨w',c',tK,_,v,TK,(hof _ rN).1,hf,(hof _ rN).2,kp⟩
  · exact ⟨w,c,⟨mX st.fr y.dst (.tuple []),st.hp⟩,a.put y.dst undef, .tuple [],⟨iQ.wf,A2 iQ.fr _ JW⟩,(hof _ hk).1,rfl, .inl fun _ _=>rfl, .refl _ _ _⟩

structure Good (tt:dO) (base n:Nat) (rem:List wA) (h:az):Prop where
  top:∀z∈rem,cm tt z.2.1=true→z.2.2<base+n
  slot:∀z∈rem,cm tt z.2.1=true→base≤z.2.2∧z.2.2<h.length∧h.at z.2.2 = .free
  apart:rem.Pairwise fun z z'=>cm tt z.2.1=true→cm tt z'.2.1=true→z.2.2<z'.2.2

theorem Good.sub {base n:Nat} {rem rem':List wA} (g:Good tt base n rem h) (hs:List.Sublist rem' rem):Good tt base n rem' h :=
  ⟨fun z hz=>g.top z (hs.subset hz),fun z hz=>g.slot z (hs.subset hz),g.apart.sublist hs⟩

theorem Good.step {base n:Nat} {x:wA} {pre post:List wA} (g:Good tt base n (pre++x::post) h) (kp:uc (cm tt x.2.1) x.2.2 h h'):Good tt base n (pre++post) h':=by
  have hs:List.Sublist (pre++post) (pre++x::post):=List.Sublist.append (List.Sublist.refl _) (List.sublist_cons_self _ _)
  refine ⟨fun z hz=>g.top z (hs.subset hz),fun z hz ha => ?_,g.apart.sublist hs⟩
  obtain ⟨h1,h2,h3⟩:=g.slot z (hs.subset hz) ha
  refine ⟨h1,Nat.lt_of_lt_of_le h2 kp.1,kp.2 _ (fun hx => ?_) h2 h3⟩
  have hp:=g.apart
  rw[List.pairwise_append,List.pairwise_cons]at hp
  rcases List.mem_append.1 hz with hz|hz
  · have:=hp.2.2 z hz x (by simp) ha hx; omega
  · have:=hp.2.1.1 z hz hx ha; omega

theorem MF {all:List Oper} {x y:Oper} (h2:yu all x y=true):yu all y x=true:=by
  obtain ⟨a1,a2,a3⟩:=apart_spec h2
  simp only[yu,Bool.and_eq_true]
  constructor
  · cases hd:y.dst with
    | none=>rfl
    | some d =>
      have h3:=a3 d hd
      have h4:x.dst≠some d:=fun e=>a2 d e hd
      simp[h3,h4]
  · cases hd:x.dst with
    | none=>rfl
    | some d=>simp[a1 d hd]
theorem MG {a b:Cls} (h:Hc a b=true):Hc b a=true:=by revert h; cases a <;> cases b <;> simp[Hc]
theorem BR {E:Env R} {all:List Oper} {x y:Oper} (h:JJ tt E all x y=true):yu all x y=true ∧
    (Hc (ew tt E x.op) (ew tt E y.op)=true∨(pO x.op=true∧(ew tt E y.op = .A∨ew tt E y.op = .R))∨(ew tt E x.op = .R∧pO y.op=true)∨(mY E x.op=true∧ew tt E y.op = .R)∨(ew tt E x.op = .R∧mY E y.op=true)):=by
  simp only[JJ,Bool.and_eq_true,Bool.or_eq_true,tokPair]at h
  obtain ⟨h1,h2⟩:=h
  refine ⟨h2,?_⟩
  rcases h1 with h1|(⟨h1,h3⟩|⟨h1,h3⟩)|(⟨h1,h3⟩|⟨h1,h3⟩)
  · exact .inl h1
  · refine .inr (.inl ⟨h1,?_⟩)
    revert h3; cases ew tt E y.op <;> simp
  · refine .inr (.inr (.inl ⟨?_,h3⟩))
    revert h1; cases ew tt E x.op <;> simp
  · refine .inr (.inr (.inr (.inl ⟨h1,?_⟩)))
    revert h3; cases ew tt E y.op <;> simp
  · refine .inr (.inr (.inr (.inr ⟨?_,h3⟩)))
    revert h1; cases ew tt E x.op <;> simp
theorem RZ {E:Env R} {o:Op} (h:XM tt E o=true):ew tt E o = .F:=by revert h; unfold XM; cases ew tt E o <;> simp
theorem YH {E:Env R} {all:List Oper} {x:Oper} (h:VS tt E all x=true):ew tt E x.op = .R:=by
  simp only[VS,Bool.and_eq_true]at h
  revert h
  cases ew tt E x.op <;> simp
theorem WN {E:Env R} {all:List Oper} {x:Oper} (h:OV tt E all x=true):ew tt E x.op = .R:=by
  simp only[OV,Bool.and_eq_true]at h
  revert h
  cases ew tt E x.op <;> simp
theorem qT {E:Env R} {far:Option Bool} {all:List Oper} {x y:Oper} (h:EW tt E far all x y=true):yu all x y=true∧((JJ tt E all x y=true∧(far=some true→Re tt E x y=true))∨(far=some true ∧
    ((VS tt E all x=true∧ew tt E x.op = .R∧ew tt E y.op = .F)∨(ew tt E x.op = .F∧mY E x.op=false∧fB tt y.op = .A)∨Ta all x y=true))∨(far=some false∧OV tt E all x=true∧ew tt E x.op = .R∧lu all y=true)):=by
  unfold EW at h
  simp only[Bool.or_eq_true,Bool.and_eq_true]at h
  rcases h with ⟨h,hn⟩|h
  · exact ⟨(BR h).1, .inl ⟨h,fun e=>by subst e; exact hn⟩⟩
  · split at h
    · cases h
    · simp only[Bool.or_eq_true,Bool.and_eq_true]at h
      rcases h with ⟨(⟨h2,h3⟩|⟨h2,h3,h5⟩)|h2,h4⟩
      · exact ⟨h4, .inr (.inl ⟨rfl, .inl ⟨h2,YH h2,RZ h3⟩⟩)⟩
      · refine ⟨h4, .inr (.inl ⟨rfl, .inr (.inl ⟨RZ h2,by simpa using h3,?_⟩)⟩)⟩
        revert h5
        cases fB tt y.op <;> simp
      · exact ⟨h4, .inr (.inl ⟨rfl, .inr (.inr h2)⟩)⟩
    · simp only[Bool.and_eq_true]at h
      exact ⟨h.2, .inr (.inr ⟨rfl,h.1.1,WN h.1.1,h.1.2⟩)⟩
theorem Qv {all:List Oper} {x:Oper} (h:lu all x=true∨rM all x=true):fB tt x.op = .W:=by
  obtain ⟨t,a,y,e,_⟩:=BQ h
  rw[e]; rfl
theorem Pf {E:Env R} {S:Option (Bool × List Nat)} {base:Nat} {all:List Oper} {x:Oper} {id:Nat} {fr:List V} {k0:St→Option R} {r:R} (hx:lu all x=true∨rM all x=true) (hk:one tt E S base all x id ⟨fr,h⟩ k0=some r) :
    Hy tt E base S all x (ev fr) h=true∧∃i ob,i∈BV x.op (ev fr)∧k0 ⟨fr,h.set i ob⟩=some r∧∀(h2:az) (id2:Nat) (k:St→Option R),h2.at i=h.at i→one tt E S base all x id2 ⟨fr,h2⟩ k=k ⟨fr,h2.set i ob⟩:=by
  obtain ⟨t,a,y,e,hd,hg⟩:=BQ hx
  obtain ⟨dst,op,ty,pos,after,guard⟩:=x
  simp only at e hd hg
  subst e hd hg
  unfold one at hk ⊢
  rw[BP]at hk
  simp only at hk
  have hS:Hy tt E base S all ⟨none, .store t a y,ty,pos,after,none⟩ (ev fr) h=true:=by
    cases hS:Hy tt E base S all ⟨none, .store t a y,ty,pos,after,none⟩ (ev fr) h with
    | true=>rfl
    | false=>rw[hS]at hk; cases hk
  refine ⟨hS,?_⟩
  have RY:∀(dr:Option Nat) (id:Nat) (h:az) (k:St→Option R),zO tt E dr id ⟨none, .store t a y,ty,pos,after,none⟩ ⟨fr,h⟩ k=Lz tt (.store t a y) (ev fr) h id fun v h=>k ⟨mX fr none v,h⟩:=fun dr id h k=>by cases dr <;> rfl
  rw[hS,cond_true,RY]at hk
  obtain ⟨i,ob,h1,h2,h3⟩:=WK (tt:=tt) (t:=t) (a:=a) (y:=y) (ρ:=ev fr) (id:=id) (k0:=fun v h=>k0 ⟨mX fr none v,h⟩) hk
  refine ⟨i,ob,h1,h2,fun hh id2 k e => ?_⟩
  rw[BP]
  simp only
  have hS2:Hy tt E base S all ⟨none, .store t a y,ty,pos,after,none⟩ (ev fr) hh=true:=by
    rw[←hS]
    match S with
    | none=>rfl
    | some (true,A)=>rfl
    | some (false,A)=>rfl
  rw[hS2,cond_true,RY]
  exact h3 hh id2 (fun v h=>k ⟨mX fr none v,h⟩) e
theorem MH {E:Env R} {o:Op} (hs:mY E o=true):fB tt o = .C:=by
  unfold mY at hs
  split at hs
  · split at hs
    · rename_i cl _ g hg
      simp only[fB,hg]
    · cases hs
  · cases hs
theorem Qw {E:Env R} {o:Op} (hs:mY E o=true):ew tt E o = .F:=by
  have hc:=MH (tt:=tt) hs
  have hp:oC E o=false:=by
    unfold mY at hs
    unfold oC
    split at hs
    · split at hs
      · rename_i cl _ g hg
        simp only[Bool.and_eq_true]at hs
        obtain ⟨_,h2⟩:=hs
        split at h2
        · rename_i sp Qm
          simp only[hg,Qm]
        · cases h2
      · cases hs
    · cases hs
  unfold ew
  rw[hc,hp]
  rfl
theorem TO {E:Env R} {o:Op} (ha:pO o=true):ew tt E o = .W:=by rw[rP (by rw[CT ha]; simp),CT ha]
theorem MI {E:Env R} {o:Op} {a:Cls} (h:ew tt E o=a) (h1:a ≠ .C) (h2:a ≠ .F):fB tt o=a:=by
  unfold ew at h
  split at h
  · revert h; cases oC E o <;> intro h <;> subst h <;> simp at h1 h2
  · exact h
theorem Pg {E:Env R} {all:List Oper} {x y:Oper} (h:JJ tt E all x y=true∨JJ tt E all y x=true) (hR:fB tt x.op = .R):¬turns tt E y.op:=by
  have hx:ew tt E x.op = .R:=by rw[rP (by rw[hR]; simp),hR]
  intro ht
  have hna:pO y.op=true→False:=fun ha=>by
    rcases ht with ⟨_,h⟩|⟨h,_⟩
    · rw[ha]at h; cases h
    · rw[TO ha]at h; cases h
  have Ih:mY E y.op=true→False:=fun hs=>by
    rcases ht with ⟨h,_⟩|⟨_,h⟩
    · rw[Qw hs]at h; cases h
    · rw[hs]at h; cases h
  have hc:Hc .R (ew tt E y.op)=false:=by rcases ht with ⟨h,_⟩|⟨h,_⟩ <;> rw[h] <;> rfl
  rcases h with h|h
  · rcases (BR h).2 with h|⟨h,_⟩|⟨_,h⟩|⟨h,_⟩|⟨_,h⟩
    · rw[hx,hc]at h; cases h
    · rw[TO h]at hx; cases hx
    · exact hna h
    · rw[Qw h]at hx; cases hx
    · exact Ih h
  · rcases (BR h).2 with h|⟨h,_⟩|⟨h,h'⟩|⟨h,_⟩|⟨_,h⟩
    · have:=MG h; rw[hx,hc]at this; cases this
    · exact hna h
    · rw[TO h']at hx; cases hx
    · exact Ih h
    · rw[Qw h]at hx; cases hx

theorem CU.symm {S:Option (Bool × List Nat)} {E:Env R} {all:List Oper} {base:Nat} {x:Oper} {s t:St} (h:CU S E all tt base x s t):CU S E all tt base x t s:=⟨fun u hu=>(h.1 u hu).symm,fun hR i hi hA hB=>(h.2 hR i hi hA hB).symm⟩
theorem CU.trans {S:Option (Bool × List Nat)} {E:Env R} {all:List Oper} {base:Nat} {x:Oper} {s t u:St} (h:CU S E all tt base x s t) (h':CU S E all tt base x t u):CU S E all tt base x s u :=
  ⟨fun v hv=>(h'.1 v hv).trans (h.1 v hv),fun hR i hi hA hB=>(h'.2 hR i hi hA hB).trans (h.2 hR i hi hA hB)⟩

theorem Ei {E:Env R} {S:Option (Bool × List Nat)} {all:List Oper} {base:Nat} {x y:Oper} (hp:EW tt E (S.map (·.1)) all x y=true∨EW tt E (S.map (·.1)) all y x=true) {st JX:St} {v:V} (hf:JX.fr=mX st.fr y.dst v) (hh:Kept S tt E all base y st.hp JX.hp) :
    CU S E all tt base x st JX:=by
  have h2:yu all y x=true:=by
    rcases hp with h|h
    · exact MF (qT h).1
    · exact (qT h).1
  refine ⟨fun t ht => ?_,fun hR i hi hA hB => ?_⟩
  · rw[hf]
    exact Pd fun e=>(apart_spec h2).1 t e ht
  · rcases hh with hh|⟨hW,hh,hh2⟩
    · exact hh i hi
    · have hx:ew tt E x.op = .R:=by rw[rP (by rw[hR]; simp),hR]
      rcases hp with h|h
      · rcases (qT h).2 with ⟨h,hn⟩|⟨h1,⟨h3,_,h4⟩|⟨h4,_⟩|h4⟩|⟨h1,h3,_,h4⟩
        · rcases hW with hW|⟨RY,ha⟩
          · exact (Pg (.inl h) hR hW).elim
          · have:=hn RY
            simp[Re,rdA,hx,ha]at this
        · match S,h1 with
          | some (true,A),_=>exact hh h4 A rfl i (hA A rfl h3)
        · rw[hx]at h4; cases h4
        · rw[(DH (tt:=tt) h4).1]at hR; cases hR
        · match S,h1 with
          | some (false,A),_=>exact hh2 h4 A rfl i (hB A rfl h3)
      · rcases (qT h).2 with ⟨h,hn⟩|⟨_,⟨_,_,h4⟩|⟨_,_,h4⟩|h4⟩|⟨_,_,_,h4⟩
        · rcases hW with hW|⟨RY,ha⟩
          · exact (Pg (.inr h) hR hW).elim
          · have:=hn RY
            simp[Re,rdA,hx,ha]at this
        · rw[hx]at h4; cases h4
        · rw[hR]at h4; cases h4
        · rw[(DH (tt:=tt) h4).2]at hR; cases hR
        · rw[Qv (tt:=tt) (.inl h4)]at hR; cases hR

section
variable {E:Env R} {S:Option (Bool × List Nat)} {base:Nat} {ops:Array Oper} {k:St→Option R} {r:R}

theorem pull (hE:p6 P E) {x:wA} {e:Va} {st0:St} (hc:calm (fB tt x.2.1.op)=true) (he:e.dst=x.2.1.dst) (RX:∀i ob,e.put=some (i,ob)→i=x.2.2∧fB tt x.2.1.op = .A)
    (hnat:∀Ct,CU S E ops.toList tt base x.2.1 st0 Ct→∀k,one tt E S base ops.toList x.2.1 x.2.2 Ct k=k (eff Ct e)) (post:List wA) :
    ∀(pre:List wA) (st:St) (h:az),Good tt base (ops.toList.filter (cm tt)).length (pre++x::post) h→(∀y∈pre,EW tt E (S.map (·.1)) ops.toList y.2.1 x.2.1=true)→CU S E ops.toList tt base x.2.1 st0 st →
      E8 tt E S base ops.toList (pre++x::post) st k=E8 tt E S base ops.toList (pre++post) (eff st e) k
  | [],st,_,_,_,ha=>hnat st ha _
  | y::pre,st,h,g,hp,ha=>by
    have hpy:=hp y (by simp)
    have gx:cm tt x.2.1=true→base≤x.2.2:=fun hx=>(g.slot x (by simp) hx).1
    have gy:cm tt y.2.1=true→base≤y.2.2:=fun hx=>(g.slot y (by simp) hx).1
    have glt:cm tt x.2.1=true→cm tt y.2.1=true→y.2.2<x.2.2:=fun hx hy=>by
      have:=g.apart
      rw[List.cons_append,List.pairwise_cons]at this
      exact this.1 x (by simp) hy hx
    have gne:cm tt x.2.1=true→cm tt y.2.1=true→x.2.2≠y.2.2:=fun hx hy=>by have:=glt hx hy; omega
    have Fz:Hc (ew tt E x.2.1.op) (ew tt E y.2.1.op)=true∨(pO y.2.1.op=true∧S.map (·.1)≠some true∧(cm tt x.2.1=true→y.2.2<x.2.2))∨(fB tt x.2.1.op = .R∧pO y.2.1.op=true)∨(fB tt x.2.1.op = .R∧mY E y.2.1.op=true)∨(fB tt x.2.1.op = .R∧ew tt E y.2.1.op = .F)∨(fB tt x.2.1.op = .A∧S.map (·.1)=some true∧ew tt E y.2.1.op = .F∧mY E y.2.1.op=false)∨(fB tt x.2.1.op = .R∧fB tt y.2.1.op = .W):=by
      rcases (qT hpy).2 with ⟨hpo,hna⟩|⟨hSo,⟨_,_,hF⟩|⟨hF,hsf,hA⟩|hW⟩|⟨_,_,_,hW⟩
      rotate_left
      rotate_left
      · exact .inr (.inr (.inr (.inr (.inr (.inl ⟨hA,hSo,hF,hsf⟩)))))
      · rw[(DH (tt:=tt) hW).2]at hc; cases hc
      · rw[Qv (tt:=tt) (.inl hW)]at hc; cases hc
      rotate_left
      · have hC:fB tt x.2.1.op = .C:=by
          unfold ew at hF
          split at hF
          · assumption
          · rw[hF]at hc; cases hc
        rw[hC]at hc; cases hc
      rcases (BR hpo).2 with h|⟨h,h'⟩|⟨_,h⟩|⟨h,h'⟩|⟨_,h⟩
      · exact .inl (MG h)
      · refine .inr (.inl ⟨h,fun RY => ?_,fun hx=>glt hx (by simp[cm,CT h])⟩)
        have:=hna RY
        rcases h' with h'|h' <;> simp[Re,rdA,h,h']at this
      · rw[CT h]at hc; cases hc
      · exact .inr (.inr (.inr (.inl ⟨MI h' (by simp) (by simp),h⟩)))
      · rw[MH h]at hc; cases hc
    simp only[List.cons_append,E8]
    rw[Vd Fz (MF (qT hpy).1) hc he RX gne gx fun hx=>g.top x (by simp) hx]
    refine JY hE gy fun v XS hh => ?_
    exact pull hE hc he RX hnat post pre _ h (g.sub (List.sublist_cons_self _ _)) (fun z hz=>hp z (by simp[hz])) (ha.trans (Ei (.inr hpy) rfl hh))

theorem find (T:yb P tt) (hE:p6 P E) {x:wA} (post:List wA):∀(pre:List wA) (w:World) (c:kA) (st:St) (a:Act),HH w c st a→Good tt base (ops.toList.filter (cm tt)).length (pre++x::post) st.hp→(∀y∈pre,EW tt E (S.map (·.1)) ops.toList y.2.1 x.2.1=true) →
    E8 tt E S base ops.toList (pre++x::post) st k=some r→∃tK k',CU S E ops.toList tt base x.2.1 st tK∧one tt E S base ops.toList x.2.1 x.2.2 tK k'=some r
  | [],_,_,st,_,_,_,_,hk=>⟨st,_,⟨fun _ _=>rfl,fun _ _ _ _ _=>rfl⟩,hk⟩
  | y::pre,w,c,st,a,iQ,g,hp,hk=>by
    simp only[List.cons_append,E8]at hk
    obtain ⟨w1,c1,JX,a1,v,s1,WC,hf,hh,kp⟩:=WM T hE hk iQ (fun ha=>g.slot y (by simp) ha)
    obtain ⟨tK,k',h1,h2⟩:=find T hE post pre w1 c1 JX a1 s1 (Good.step (pre := []) g kp) (fun z hz=>hp z (by simp[hz])) WC
    exact ⟨tK,k',(Ei (.inr (hp y (by simp))) hf hh).trans h1,h2⟩

theorem YI (hE:p6 P E) {x:wA} (post:List wA):∀(pre:List wA) (st:St) (h:az),Good tt base (ops.toList.filter (cm tt)).length (pre++x::post) h→(∀y∈pre,EW tt E (S.map (·.1)) ops.toList y.2.1 x.2.1=true∧(calm (fB tt y.2.1.op)=true∨(S.map (·.1)=some true∧Ta ops.toList y.2.1 x.2.1=true))) →
    E8 tt E S base ops.toList (pre++x::post) st k=some r→one tt E S base ops.toList x.2.1 x.2.2 st (fun JX=>E8 tt E S base ops.toList (pre++post) JX k)=some r
  | [],_,_,_,_,hk=>hk
  | y::pre,st,h,g,hp,hk=>by
    obtain ⟨hpy,B1⟩:=hp y (by simp)
    simp only[List.cons_append,E8]at hk ⊢
    rcases B1 with B1|⟨hSo,hW⟩
    rotate_left
    · have hvy:lu ops.toList y.2.1=true∨rM ops.toList y.2.1=true:=(Gw hW).imp (·.1) (·.1)
      have hvx:lu ops.toList x.2.1=true∨rM ops.toList x.2.1=true:=((Gw hW).imp (·.2) (·.2)).symm
      obtain ⟨fr,hp0⟩:=st
      obtain ⟨sy,i,ob,iy,WC,ny⟩:=Pf hvy hk
      have ih:=YI hE post pre _ h (g.sub (List.sublist_cons_self _ _)) (fun z hz=>hp z (by simp[hz])) WC
      obtain ⟨sx,j,ob',ix,GN,nx⟩:=Pf hvx ih
      have km:i≠j:=by
        match S,hSo,sy,sx with
        | some (true,A),_,sy,sx =>
          simp only[Hy,(DH (tt:=tt) hW).1,Bool.and_eq_true,Bool.or_eq_true,Bool.not_eq_true',List.all_eq_true]at sy
          simp only[Hy,(DH (tt:=tt) hW).2,Bool.and_eq_true,Bool.or_eq_true,Bool.not_eq_true',List.all_eq_true]at sx
          rintro rfl
          rcases Gw hW with ⟨g1,g2⟩|⟨g1,g2⟩
          · have a1:=sy.1.resolve_left (by simp[g1]) i iy
            have a2:=sx.2.resolve_left (by simp[g2]) i ix
            rw[a1]at a2; cases a2
          · have a1:=sy.2.resolve_left (by simp[g1]) i iy
            have a2:=sx.1.resolve_left (by simp[g2]) i ix
            rw[a2]at a1; cases a1
      rw[nx hp0 _ _ (de _ km).symm,ny (hp0.set j ob') _ _ (de _ (Ne.symm km)),←List.set_comm _ _ km]
      exact GN
    obtain ⟨e,h1,h2,h3,h4⟩:=Vb B1 hk
    have gx:cm tt x.2.1=true→base≤x.2.2:=fun hx=>(g.slot x (by simp) hx).1
    have gy:cm tt y.2.1=true→base≤y.2.2:=fun hx=>(g.slot y (by simp) hx).1
    have gne:cm tt y.2.1=true→cm tt x.2.1=true→y.2.2≠x.2.2:=fun hy hx=>by
      have:=g.apart
      rw[List.cons_append,List.pairwise_cons]at this
      exact Nat.ne_of_lt (this.1 x (by simp) hy hx)
    have Fz:Hc (ew tt E y.2.1.op) (ew tt E x.2.1.op)=true∨(pO x.2.1.op=true∧S.map (·.1)≠some true∧(cm tt y.2.1=true→x.2.2<y.2.2))∨(fB tt y.2.1.op = .R∧pO x.2.1.op=true)∨(fB tt y.2.1.op = .R∧mY E x.2.1.op=true)∨(fB tt y.2.1.op = .R∧ew tt E x.2.1.op = .F)∨(fB tt y.2.1.op = .A∧S.map (·.1)=some true∧ew tt E x.2.1.op = .F∧mY E x.2.1.op=false)∨(fB tt y.2.1.op = .R∧fB tt x.2.1.op = .W):=by
      rcases (qT hpy).2 with ⟨hpo,_⟩|⟨_,⟨_,hR,hF⟩|⟨hF,_⟩|hW⟩|⟨_,_,hR,hW⟩
      rotate_left
      · exact .inr (.inr (.inr (.inr (.inl ⟨MI hR (by simp) (by simp),hF⟩))))
      · have hC:fB tt y.2.1.op = .C:=by
          unfold ew at hF
          split at hF
          · assumption
          · rw[hF]at B1; cases B1
        rw[hC]at B1; cases B1
      · rw[(DH (tt:=tt) hW).1]at B1; cases B1
      · exact .inr (.inr (.inr (.inr (.inr (.inr ⟨MI hR (by simp) (by simp),Qv (.inl hW)⟩)))))
      rcases (BR hpo).2 with h|⟨h,_⟩|⟨h,h'⟩|⟨h,_⟩|⟨h,h'⟩
      · exact .inl h
      · rw[CT h]at B1; cases B1
      · exact .inr (.inr (.inl ⟨MI h (by simp) (by simp),h'⟩))
      · rw[MH h]at B1; cases B1
      · exact .inr (.inr (.inr (.inl ⟨MI h (by simp) (by simp),h'⟩)))
    have ih:=YI hE post pre (eff st e) h (g.sub (List.sublist_cons_self _ _)) (fun z hz=>hp z (by simp[hz])) h3
    rw[Vd Fz (qT hpy).1 B1 h1 h2 gne gy fun hy=>g.top y (by simp) hy]at ih
    rw[←ih]
    refine JY hE gx fun v XS hh => ?_
    exact h4 _ (Ei (.inl hpy) rfl hh) _

theorem bubble (T:yb P tt) (hE:p6 P E) {x:wA} {pre post:List wA} {st:St} {a:Act} (iQ:HH w c st a) (g:Good tt base (ops.toList.filter (cm tt)).length (pre++x::post) st.hp) (hp:∀y∈pre,EW tt E (S.map (·.1)) ops.toList y.2.1 x.2.1=true)
    (hk:E8 tt E S base ops.toList (pre++x::post) st k=some r):one tt E S base ops.toList x.2.1 x.2.2 st (fun JX=>E8 tt E S base ops.toList (pre++post) JX k)=some r:=by
  by_cases hc:calm (fB tt x.2.1.op)=true
  · obtain ⟨tK,k',h1,h2⟩:=find T hE post pre w c st a iQ g hp hk
    obtain ⟨e,e1,e2,_,e4⟩:=Vb hc h2
    rw[e4 st h1.symm,←pull hE hc e1 e2 e4 post pre st _ g hp h1.symm]
    exact hk
  · refine YI hE post pre st _ g (fun y hy=>⟨hp y hy,?_⟩) hk
    have h0:=(qT (hp y hy)).2
    by_cases hfw:S.map (·.1)=some true∧Ta ops.toList y.2.1 x.2.1=true
    · exact .inr hfw
    refine .inl ?_
    have hy:ew tt E y.2.1.op = .P∨ew tt E y.2.1.op = .R∨ew tt E y.2.1.op = .A:=by
      have hx:¬calm (ew tt E x.2.1.op)=true:=by
        unfold ew
        split
        · cases oC E x.2.1.op <;> simp[calm]
        · exact hc
      rcases h0 with ⟨h0,_⟩|⟨hSo,⟨_,h0,_⟩|⟨_,_,h0⟩|h0⟩|⟨_,_,h0,_⟩
      rotate_left
      · exact .inr (.inl h0)
      · exact (hc (by rw[h0]; rfl)).elim
      · exact (hfw ⟨hSo,h0⟩).elim
      · exact .inr (.inl h0)
      have h1:=(BR h0).2
      rcases h1 with h1|⟨_,h1⟩|⟨h1,_⟩|⟨_,h1⟩|⟨h1,_⟩
      · revert h1 hx
        cases ew tt E x.2.1.op <;> cases ew tt E y.2.1.op <;> simp[Hc,calm]
      · exact (hx (by rcases h1 with h|h <;> rw[h] <;> rfl)).elim
      · exact .inr (.inl h1)
      · exact (hx (by rw[h1]; rfl)).elim
      · exact .inr (.inl h1)
    have km:fB tt y.2.1.op ≠ .C:=fun e=>by
      unfold ew at hy
      rw[e]at hy
      cases hp2:oC E y.2.1.op <;> simp[hp2]at hy
    rw[rP km]at hy
    rcases hy with h|h|h <;> rw[h] <;> rfl
end

theorem yC:∀(l:List Oper) (i id:Nat) (x:wA),x∈number tt l i id→i≤x.1∧x.1<i+l.length∧l[x.1 - i]? = some x.2.1∧id≤x.2.2∧(cm tt x.2.1=true→x.2.2<id+(l.filter (cm tt)).length)
  | [],_,_,_,h=>by simp[number]at h
  | o::l,i,id,x,h=>by
    simp only[number,List.mem_cons]at h
    rcases h with rfl|h
    · refine ⟨Nat.le_refl _,by simp,by simp,Nat.le_refl _,fun ha => ?_⟩
      simp only at ha
      simp only[List.filter_cons_of_pos ha,List.length_cons]
      omega
    · obtain ⟨h1,h2,h3,h4,h5⟩:=yC l _ _ x h
      have e:x.1 - i=(x.1 - (i+1))+1:=by omega
      refine ⟨by omega,by simp; omega,by rw[e]; simpa using h3,?_,fun ha => ?_⟩
      · split at h4 <;> omega
      · have:=h5 ha
        by_cases ho:cm tt o=true
        · rw[if_pos ho]at this
          rw[List.filter_cons_of_pos ho,List.length_cons]; omega
        · rw[if_neg ho]at this
          rw[List.filter_cons_of_neg ho]; omega

theorem Ej:∀(l:List Oper) (i id:Nat),(number tt l i id).Pairwise fun z z'=>z.1<z'.1∧(cm tt z.2.1=true→cm tt z'.2.1=true→z.2.2<z'.2.2)
  | [],_,_=>by simp[number]
  | o::l,i,id=>by
    simp only[number,List.pairwise_cons]
    refine ⟨fun z hz => ?_,Ej l _ _⟩
    obtain ⟨h1,_,_,h4,_⟩:=yC l _ _ z hz
    refine ⟨by omega,fun ha _ => ?_⟩
    rw[if_pos ha]at h4
    omega

theorem MJ:∀(l:List Oper) (i id j:Nat),i≤j→j<i+l.length→∃x∈number tt l i id,x.1=j
  | [],i,_,j,h1,h2=>by simp at h2; omega
  | o::l,i,id,j,h1,h2=>by
    by_cases e:i=j
    · exact ⟨(i,o,id),by simp[number],e⟩
    · obtain ⟨x,hx,ex⟩:=MJ l (i+1) (if cm tt o then id+1 else id) j (by omega) (by simp at h2; omega)
      exact ⟨x,by simp[number,hx],ex⟩

structure Left (ops:Array Oper) (b:List (List Nat)) (listed:Array Bool) (rem:List wA):Prop where
  size:listed.size=ops.size
  sorted:rem.Pairwise fun z z'=>z.1<z'.1
  op:∀x∈rem,ops[x.1]? = some x.2.1
  un:∀x∈rem,listed.getD x.1 true=false
  all:∀i,listed.getD i true=false→∃x∈rem,x.1=i
  closed:∀m,listed.getD m false=true→∀i∈b.getD m [],listed.getD i false=true

theorem MK {listed:Array Bool} {i:Nat} (h:i<listed.size):listed.getD i false=true↔¬listed.getD i true=false:=by
  simp[h]

theorem WO (T:yb P tt) {E:Env R} (hE:p6 P E) {S:Option (Bool × List Nat)} {base:Nat} {ops:Array Oper} {b:List (List Nat)} {k:St→Option R} {r:R} {Q:Exit→Act→World→Prop}
    (hpair:∀i j x y,i<j→ops[i]? = some x→ops[j]? = some y→i∈b.getD j []∨EW tt E (S.map (·.1)) ops.toList x y=true)
    (hback:∀(j:Nat) (y:Oper),ops[j]? = some y→∀e∈y.after,Region.binds .any e=true→e.on<j)
    (hclo:∀(j:Nat) (y:Oper),ops[j]? = some y→∀i∈b.getD j [],∃e∈y.after,Region.binds .any e=true∧(e.on=i∨i∈b.getD e.on [])) :
    ∀(fuel:Nat) (listed:Array Bool) (rem:List wA) (w:World) (c:kA) (st:St) (a:Act),rem.length≤fuel→Left ops b listed rem→Good tt base (ops.toList.filter (cm tt)).length rem st.hp→HH w c st a→E8 tt E S base ops.toList rem st k=some r →
      Yz w c st a k r (Q .normal)→wpAny P .any ops Q fuel listed a w:=by
  intro fuel
  -- if nothing is ready, nothing is left
  have hnone:∀listed rem,Left ops b listed rem→Region.ready .any ops listed = []→rem = []:=by
    intro listed rem lf hr
    cases rem with
    | nil=>rfl
    | cons x rest =>
      have:x.1∈Region.ready .any ops listed:=by
        rw[mem_ready]
        refine ⟨lf.un x (by simp),x.2.1,lf.op x (by simp),fun e he hb => ?_⟩
        have lp:=hback x.1 x.2.1 (lf.op x (by simp)) e he hb
        have hx:x.1<ops.size:=(Array.getElem?_eq_some_iff.1 (lf.op x (by simp))).1
        rw[MK (by rw[lf.size]; omega)]
        intro hun
        obtain ⟨y,hy,ey⟩:=lf.all _ hun
        rcases List.mem_cons.1 hy with rfl|hy
        · omega
        · have:=(List.pairwise_cons.1 lf.sorted).1 y hy
          omega
      rw[hr]at this
      cases this
  induction fuel with
  | zero =>
    intro listed rem w c st a hl lf g iQ hk go
    obtain rfl:rem = []:=List.eq_nil_of_length_eq_zero (by omega)
    refine ⟨?_,go a w st c iQ (.refl _ _ _) rfl hk⟩
    cases hr:Region.ready .any ops listed with
    | nil=>rfl
    | cons i l =>
      have hi:i∈Region.ready .any ops listed:=by rw[hr]; simp
      obtain ⟨x,hx,_⟩:=lf.all i (mem_ready.1 hi).1
      cases hx
  | succ fuel ih =>
    intro listed rem w c st a hl lf g iQ hk go
    refine ⟨fun hr => ?_,fun i hi => ?_⟩
    · obtain rfl:=hnone _ _ lf hr
      exact go a w st c iQ (.refl _ _ _) rfl hk
    · obtain ⟨hun,o,ho,hdone⟩:=mem_ready.1 hi
      obtain ⟨x,hx,rfl⟩:=lf.all i hun
      obtain ⟨pre,post,rfl⟩:=List.append_of_mem hx
      have hox:=lf.op x (by simp)
      rw[hox]at ho
      cases ho
      have Ve:=lf.sorted
      rw[List.pairwise_append,List.pairwise_cons]at Ve
      have hbx:∀j∈b.getD x.1 [],listed.getD j false=true:=fun j hj=>by
        obtain ⟨e,he,hb,hor⟩:=hclo x.1 x.2.1 hox j hj
        have hel:=hdone e he hb
        rcases hor with rfl|hj
        · exact hel
        · exact lf.closed _ hel j hj
      have hpr:∀y∈pre,EW tt E (S.map (·.1)) ops.toList y.2.1 x.2.1=true:=fun y hy=>by
        rcases hpair y.1 x.1 y.2.1 x.2.1 (Ve.2.2 y hy x (by simp)) (lf.op y (by simp[hy])) hox with h1|h1
        · have h2:=hbx _ h1
          have h3:=lf.un y (by simp[hy])
          have hy':y.1<ops.size:=(Array.getElem?_eq_some_iff.1 (lf.op y (by simp[hy]))).1
          rw[MK (by rw[lf.size]; exact hy')]at h2
          exact (h2 h3).elim
        · exact h1
      have IK:=bubble T hE iQ g hpr hk
      have YJ:x.1<listed.size:=by rw[lf.size]; exact (Array.getElem?_eq_some_iff.1 hox).1
      have lf':Left ops b (listed.setIfInBounds x.1 true) (pre++post):=by
        have hs:List.Sublist (pre++post) (pre++x::post):=List.Sublist.append (List.Sublist.refl _) (List.sublist_cons_self _ _)
        have km:∀y∈pre++post,x.1≠y.1:=fun y hy=>by
          rcases List.mem_append.1 hy with hy|hy
          · have:=Ve.2.2 y hy x (by simp); omega
          · have:=Ve.2.1.1 y hy; omega
        refine ⟨by simp[lf.size],lf.sorted.sublist hs,fun y hy=>lf.op y (hs.subset hy),fun y hy => ?_,fun j hj => ?_,fun m hm j hj => ?_⟩
        · rw[getD_set_ne true (km y hy)]; exact lf.un y (hs.subset hy)
        · by_cases e:x.1=j
          · subst e; simp[YJ]at hj
          · rw[getD_set_ne true e]at hj
            obtain ⟨y,hy,ey⟩:=lf.all j hj
            refine ⟨y,?_,ey⟩
            rcases List.mem_append.1 hy with h1|h1
            · exact List.mem_append_left _ h1
            · rcases List.mem_cons.1 h1 with rfl|h1
              · exact (e ey).elim
              · exact List.mem_append_right _ h1
        · refine getD_set_true ?_
          by_cases e:x.1=m
          · subst e; exact hbx j hj
          · rw[getD_set_ne false e]at hm; exact lf.closed m hm j hj
      have XQ:(pre++post).length≤fuel:=by simp at hl ⊢; omega
      unfold wpOp
      simp only[hox]
      rcases Eg iQ IK with ⟨hw,IK⟩|⟨hw,IK⟩
      · rw[if_pos hw]
        have IK:zO tt E (XO tt S base x.2.1) x.2.2 x.2.1 st (fun JX=>E8 tt E S base ops.toList (pre++post) JX k)=some r:=by
          cases hS:Hy tt E base S ops.toList x.2.1 (ev st.fr) st.hp with
          | true=>rw[hS]at IK; exact IK
          | false=>rw[hS]at IK; cases IK
        refine .inl (FK T hE IK iQ (fun ha=>(g.slot x (by simp) ha).2) fun d w' tK c' v TK xt kp _ _ _ rN => ?_)
        exact ih _ _ w' c' tK _ XQ lf' (g.step kp) TK rN fun a2 w2 Ct c2 s2 x2 d2 k2=>go a2 w2 Ct c2 s2 (xt.trans x2) (d2.trans (put_defers _ _ _)) k2
      · rw[if_neg (by simp[hw])]
        exact ih _ _ w c ⟨mX st.fr x.2.1.dst (.tuple []),st.hp⟩ (a.put x.2.1.dst undef) XQ lf' (g.step (.refl _ _ _)) ⟨iQ.wf,A2 iQ.fr _ JW⟩ IK fun a2 w2 Ct c2 s2 x2 d2 k2=>go a2 w2 Ct c2 s2 x2 (d2.trans (put_defers _ _ _)) k2

theorem Gx (n:Nat):Ext w h c { w with drawn:=n } h c where
  os:=rfl
  tape:=rfl
  output:=rfl
  size:=Nat.le_refl _
  used:=fun _ hi=>hi
  same:=fun i hi hd=>⟨DE (Gt hi.2 hd) (fun _ _ _ => .inr trivial),rfl,rfl⟩
  cell:=fun _ _ _ _=>rfl
  block:=fun _ _ _=>rfl
  wK:=fun _ _ _ ho=>ho
  ext:=rfl
  arr:=fun b arr e fz hb=>⟨arr,fz,hb,rfl⟩

theorem YK (wf:WF w h c) (n:Nat):WF { w with drawn:=n } h c where
  lay:=wf.sA (Gx n)
  yw:=wf.yw
  pP:=wf.pP
  obj:=fun i hi=>by
    by_cases hl:(h.at i).live
    · exact (wf.obj i hi).keep (Gx n) (fun _ _=>rfl) rfl rfl
    · have h0:h.at i = .free∨h.at i = .dead:=by revert hl; cases h.at i <;> simp[ca.live]
      rcases h0 with h0|h0 <;> rw[h0] <;> trivial
  inj:=wf.inj

theorem KI (M:List Nat) (i:Nat):∀(es:List Nat) (m:Nat),(es.foldl (fun m e=>m ||| (Nat.pow 2 e ||| M.getD e 0)) m).testBit i=true→m.testBit i=true∨∃e∈es,e=i∨(M.getD e 0).testBit i=true
  | [],m,h => .inl h
  | e::es,m,h=>by
    rcases KI M i es _ h with h|⟨x,hx,h⟩
    · rw[Nat.testBit_or,Nat.testBit_or,Bool.or_eq_true,Bool.or_eq_true]at h
      rcases h with h|h|h
      · exact .inl h
      · have h':(2 ^ e).testBit i=true:=h
        rw[Nat.testBit_two_pow]at h'
        exact .inr ⟨e,by simp, .inl (of_decide_eq_true h')⟩
      · exact .inr ⟨e,by simp, .inr h⟩
    · exact .inr ⟨x,by simp[hx],h⟩

theorem FM {n j i:Nat} {M:List Nat} (hj:j<n):i∈(beforeL n M).getD j []↔i<n∧(M.getD j 0).testBit i=true:=by
  unfold beforeL
  rw[List.getD_eq_getElem?_getD,List.getElem?_map,List.getElem?_range hj]
  simp

theorem TP (T:yb P tt) (hm:P.follows .mixedOrders=true) {E:Env R} (hE:p6 P E) {id:Nat} {ops:Array Oper} {k:St→Option R} {r:R} {Q:Exit→Act→World→Prop} {st:St} {a:Act}
    (hk:Gr tt E ops.toList true st k=some r) (iQ:HH w c st a) (go:Yz w c st a k r (Q .normal)):(Code.region id ops true).wp P Q a w:=by
  obtain ⟨S,hd,hk⟩:∃S:Option (Bool × List Nat),FD tt E (S.map (·.1)) ops.toList=true∧E8 tt E S st.hp.length ops.toList (number tt ops.toList 0 st.hp.length) ⟨st.fr,st.hp++List.replicate (ops.toList.filter (cm tt)).length .free⟩ k=some r:=by
    simp only[Gr,if_true]at hk
    split at hk
    · rename_i hd
      rw[Qs _ 0]at hk
      exact ⟨none,hd,hk⟩
    · split at hk
      · rename_i hd
        rw[LG _ 0]at hk
        exact ⟨some (true,L6 ops.toList st.fr),hd,hk⟩
      · split at hk
        · rename_i hd
          rw[LG _ 0]at hk
          exact ⟨some (false,L7 ops.toList st.fr),hd,hk⟩
        · cases hk
  refine wp_region_any hm ?_
  have yf:∀j,j<ops.size→((List.range j).all (fun i=>((Ij ops.toList).getD j 0).testBit i||EW tt E (S.map (·.1)) ops.toList (ops.toList.getD i default) (ops.toList.getD j default))=true ∧
      (D7 (ops.toList.getD j default)).all (fun i=>Nat.blt i j)=true∧(Ij ops.toList).getD j 0=LA (Ij ops.toList) (D7 (ops.toList.getD j default))):=by
    intro j hj
    unfold FD at hd
    simp only at hd
    rw[List.all_eq_true]at hd
    have:=hd j (by simpa using hj)
    simp only[Bool.and_eq_true]at this
    exact ⟨this.1.1,this.1.2,Nat.eq_of_beq_eq_true this.2⟩
  have C8:∀(j:Nat) (y:Oper),ops[j]? = some y→ops.toList.getD j default=y∧j<ops.size:=fun j y hy=>by
    refine ⟨?_,(Array.getElem?_eq_some_iff.1 hy).1⟩
    rw[List.getD,Array.getElem?_toList,hy]; rfl
  have hbind:∀(y:Oper) (n:Nat),n∈D7 y↔∃e∈y.after,Region.binds .any e=true∧e.on=n:=by
    intro y n
    simp[D7,List.mem_map,List.mem_filter,and_assoc]
  have TK:HH { w with drawn:=w.drawn+1 } c ⟨st.fr,st.hp++List.replicate (ops.toList.filter (cm tt)).length .free⟩ a :=
    ⟨YK (FL iQ.wf _) _,(iQ.fr.mono (tN _)).mono (Gx _)⟩
  refine WO T hE (S:=S) (base:=st.hp.length) (b:=beforeL ops.size (Ij ops.toList)) (fun i j x y ye hx hy => ?_) (fun j y hy e he hb => ?_) (fun j y hy i hi => ?_) ops.size _ (number tt ops.toList 0 st.hp.length) _ c _ a ?_ ?_ ?_ TK hk ?_
  · obtain ⟨h1,h2⟩:=C8 i x hx
    obtain ⟨h3,h4⟩:=C8 j y hy
    have:=List.all_eq_true.1 (yf j h4).1 i (by simpa using ye)
    rw[h1,h3,Bool.or_eq_true]at this
    rcases this with h|h
    · exact .inl ((FM h4).2 ⟨h2,h⟩)
    · exact .inr h
  · obtain ⟨h3,h4⟩:=C8 j y hy
    have:=(yf j h4).2.1
    rw[h3,List.all_eq_true]at this
    simpa using this e.on ((hbind y _).2 ⟨e,he,hb,rfl⟩)
  · obtain ⟨h3,h4⟩:=C8 j y hy
    have heq:=(yf j h4).2.2
    have lp:=(yf j h4).2.1
    rw[h3]at heq lp
    obtain ⟨hin,hbit⟩:=(FM h4).1 hi
    rw[heq]at hbit
    unfold LA at hbit
    rcases KI _ i _ _ hbit with h|⟨n,hn,h⟩
    · simp at h
    · obtain ⟨e,he,hb,rfl⟩:=(hbind y n).1 hn
      refine ⟨e,he,hb,h.imp (fun h=>h) fun h => ?_⟩
      have:=List.all_eq_true.1 lp e.on hn
      have hon:e.on<j:=by simpa using this
      exact (FM (Nat.lt_trans hon h4)).2 ⟨hin,h⟩
  · have:∀(l:List Oper) (i id:Nat),(number tt l i id).length=l.length:=by
      intro l
      induction l with
      | nil=>intros; rfl
      | cons o l ih=>intros; simp[number,ih]
    rw[this]; simp
  · refine ⟨by simp,(Ej _ _ _).imp fun h=>h.1,fun x hx => ?_,fun x hx => ?_,fun i hi => ?_,fun m hm => ?_⟩
    · obtain ⟨_,_,h3,_⟩:=yC _ _ _ x hx
      simpa using h3
    · obtain ⟨_,h2,_⟩:=yC _ _ _ x hx
      simp at h2
      simp[h2]
    · have:i<ops.size:=by
        rcases Nat.lt_or_ge i ops.size with h|h
        · exact h
        · simp[Nat.not_lt.2 h]at hi
      exact MJ _ 0 _ i (Nat.zero_le _) (by simpa using this)
    · rcases Nat.lt_or_ge m ops.size with h|h
      · simp[h]at hm
      · simp[Nat.not_lt.2 h]at hm
  · refine ⟨fun z hz ha=>(yC _ _ _ z hz).2.2.2.2 ha,fun z hz ha => ?_,(Ej _ _ _).imp fun h=>h.2⟩
    obtain ⟨_,_,_,h4,h5⟩:=yC _ _ _ z hz
    have h5:=h5 ha
    refine ⟨h4,by simp; omega,?_⟩
    rw[kg h4]
    have:z.2.2 - st.hp.length<(ops.toList.filter (cm tt)).length:=by omega
    simp[az.at,List.getD,List.getElem?_replicate,this]
  · exact fun a2 w2 Ct c2 s2 x2 d2 k2=>go a2 w2 Ct c2 s2 (((tN _).trans (Gx _)).trans x2) d2 k2
end

section
variable {P:Program} {tt:dO} {w w':World} {h h':az} {c c':kA} {R:Type}

theorem KJ (h:az):∀(n:Nat) (l rest seen:List Nat),(seen++l).Nodup→l.length≤n→∃t,reach h n (l++rest) seen=seen++l++t
  | n, [],rest,seen,_,_=>by
    have key:∀(n:Nat) (todo seen:List Nat),∃t,reach h n todo seen=seen++t:=by
      intro n
      induction n with
      | zero=>exact fun _ _=>⟨[],by simp[reach]⟩
      | succ n ih =>
        intro todo seen
        cases todo with
        | nil=>exact ⟨[],by simp[reach]⟩
        | cons i todo =>
          simp only[reach]
          split
          · exact ih _ _
          · obtain ⟨t,ht⟩:=ih (todo++(h.at i).ids) (seen ++ [i])
            exact ⟨i::t,by rw[ht]; simp⟩
    obtain ⟨t,ht⟩:=key n rest seen
    exact ⟨t,by simpa using ht⟩
  | 0,i::l,_,_,_,hl=>by simp at hl
  | n+1,i::l,rest,seen,hn,hl=>by
    have hi:i∉seen:=fun hm=>by
      rw[List.nodup_append]at hn
      exact hn.2.2 i hm i (by simp) rfl
    obtain ⟨t,ht⟩:=KJ h n l (rest++(h.at i).ids) (seen ++ [i]) (by simpa using hn) (by simpa using hl)
    refine ⟨t,?_⟩
    simp only[List.cons_append,reach,List.contains_iff_mem,hi,if_false,List.append_assoc]at ht ⊢
    simpa using ht

theorem R0 {w0:World} {h0:az} {c0:kA} (x:Ext w0 h0 c0 w h c) {ord:List Nat} (hf:∀i,i<h0.length→ord[i]? = some i):Ext w0 h0 c0 w (h.pick ord) (c.pick ord c.ext) where
  os:=x.os
  tape:=x.tape
  output:=x.output
  size:=x.size
  used:=fun i hi=>by
    have e:=hf i hi.1
    refine ⟨by simpa [az.pick]using (List.getElem?_eq_some_iff.1 e).1,?_⟩
    rw[vB,e]
    simp only[ne_eq,DA]
    exact (x.used i hi).2
  same:=fun i hi hd=>by
    have e:=hf i hi.1
    rw[vB,e]at hd ⊢
    simp only[ne_eq,IE]at hd
    obtain ⟨s1,s2,s3⟩:=x.same i hi hd
    exact ⟨O3.2 s1,by simp[kA.pick,e,s2],by simp[kA.pick,List.getD,e,s3]⟩
  cell:=x.cell
  block:=x.block
  wK:=fun b y hb ho=>by
    obtain ⟨i,_,f,g1,g2,g3⟩:=DC ho
    exact x.wK b y hb ⟨i,f,g1,g2,g3⟩
  ext:=x.ext
  arr:=x.arr

theorem IL (wf:WF w h c) {ord:List Nat} (E7:ord.Nodup):WF w (h.pick ord) (c.pick ord c.ext) :=
  U8 wf E7 (fun _ _ hf=>hf.2) wf.pP (fun b x ⟨i,_,f,g1,g2,g3⟩=>wf.yw b x ⟨i,f,g1,g2,g3⟩)

theorem He {ord:List Nat} {cs:List V} {ds:List Value} (r:cK w h c cs ds):cK w (h.pick ord) (c.pick ord c.ext) (V.yt (yp ord) cs) ds :=
  r.pZ (Mu fun _ _ hf=>hf.2)

theorem WQ {m:Nat} {t:List Nat} {i:Nat} (hi:i<m):(List.range m++t)[i]? = some i:=by
  rw[List.getElem?_append_left (by simpa using hi),List.getElem?_range hi]

theorem KK (h:az) {m n:Nat} (hmn:m≤n) (rest:List Nat):(reach h n (List.range m++rest) []).Nodup∧∀i,i<m→(reach h n (List.range m++rest) [])[i]? = some i:=by
  refine ⟨CQ h _ _ _ (by simp),fun i hi => ?_⟩
  obtain ⟨t,ht⟩:=KJ h n (List.range m) rest [] (by simpa using List.nodup_range) (by simpa using hmn)
  rw[ht]
  simpa using WQ (t:=t) hi

theorem ML {w0:World} {h0:az} {c0:kA} {st:St} {a:Act} (iQ:HH w c st a) (x:Ext w0 h0 c0 w st.hp c) (hm:h0.length≤200):∃c',HH w c' (st.gc h0.length) a∧Ext w0 h0 c0 w (st.gc h0.length).hp c':=by
  obtain ⟨h1,h2⟩:=KK st.hp (m:=h0.length) (n:=256) (by omega) (V.s6 st.fr)
  exact ⟨_,⟨IL iQ.wf h1,He iQ.fr⟩,R0 x h2⟩

theorem HK {fr:List V} {ds:List Value} (r:cK w h c fr ds) (live drop:List Nat):cK w h c (D8 live drop fr) ds:=by
  refine ⟨by simp[D8,r.1],fun j v d hv hd => ?_⟩
  unfold D8 at hv
  rw[List.getElem?_map,List.getElem?_zipIdx]at hv
  cases e:fr[j]? with
  | none=>rw[e]at hv; cases hv
  | some u =>
    rw[e]at hv
    simp at hv
    subst hv
    have ru:=r.2 j u d e hd
    split
    · split
      · exact KE ru
      · exact ru
    · exact .undef _

theorem A3:∀(l:List (Nat × Ty)) (st:St) (c:kA) (a:Act),HH w c st a→∃c',HH w c' (Hz l st) a∧Ext w st.hp c w (Hz l st).hp c'
  | [],st,c,a,iQ=>⟨c,iQ, .refl _ _ _⟩
  | (d,T)::l,st,c,a,iQ=>by
    have key:∀(U:Ty),(∀x,a.tmps.toList[d]? = some x→x = .slice none 0 0) →
        ∃c',HH w c' ⟨st.fr.set d (.sl U [] (.own st.hp.length)),st.hp ++ [.tok]⟩ a∧Ext w st.hp c w (st.hp ++ [.tok]) c':=by
      intro U hx
      obtain ⟨c',k1,k2,k3⟩:=Iz (id:=st.hp.length) (T:=U) (FL iQ.wf 1) (by simp) (by rw[kg (Nat.le_refl _)]; simp[az.at])
      have e:(st.hp++List.replicate 1 ca.free).set st.hp.length .tok=st.hp ++ [.tok]:=by simp
      rw[e]at k1 k2 k3
      have k4:=(tN (w:=w) (h:=st.hp) (c:=c) 1).trans k2
      refine ⟨c',⟨k1,?_⟩,k4⟩
      have rf:=iQ.fr.mono k4
      refine ⟨by simp[rf.1],fun j v x hv R1 => ?_⟩
      rw[List.getElem?_set]at hv
      by_cases hj:d=j
      · subst hj
        rw[if_pos rfl]at hv
        split at hv
        · cases hv
          rw[hx x R1]
          exact k3
        · cases hv
      · rw[if_neg hj]at hv
        exact rf.2 j v x hv R1
    simp only[Hz]
    have rd:=iQ.fr.getD d undef
    split
    · rename_i he
      rw[he]at rd
      obtain ⟨c',s',x'⟩:=key T fun x hx=>by
        rw[List.getD,hx]at rd
        cases rd; rfl
      obtain ⟨c2,s2,x2⟩:=A3 l _ c' a s'
      exact ⟨c2,s2,x'.trans x2⟩
    · rename_i T' l' he
      rw[he]at rd
      have hl:l' = []:=by
        generalize a.tmps.toList.getD d undef=q at rd
        cases rd with
        | sl f me s7 hc hr yv nk =>
          have:=(yv rfl).2
          exact List.eq_nil_of_length_eq_zero (by omega)
      subst hl
      obtain ⟨c',s',x'⟩:=key T' fun x hx=>by
        rw[List.getD,hx]at rd
        simp only[Option.getD_some]at rd
        generalize hn:([]:List T'.den)=nl at rd
        cases rd with
        | sl f me s7 hc hr yv nk =>
          obtain ⟨rfl,rfl⟩:=yv rfl
          subst hn
          rfl
      obtain ⟨c2,s2,x2⟩:=A3 l _ c' a s'
      exact ⟨c2,s2,x'.trans x2⟩
    · exact A3 l st c a iQ

theorem put_nil {st:St} {a:Act} {d:Nat} {v:V} {h':az} {c':kA} (iQ:HH w c st a) (he:st.fr.getD d .undef = .cJ) (k1:WF w h' c') (k4:Ext w st.hp c w h' c') (k3:dK w h' c' v (.slice none 0 0)) :
    HH w c' ⟨st.fr.set d v,h'⟩ a:=by
  refine ⟨k1,?_⟩
  have rf:=iQ.fr.mono k4
  refine ⟨by simp[rf.1],fun j u x hv R1 => ?_⟩
  rw[List.getElem?_set]at hv
  by_cases hj:d=j
  · subst hj
    rw[if_pos rfl]at hv
    split at hv
    · cases hv
      have rd:=iQ.fr.getD d undef
      rw[he,List.getD,R1]at rd
      cases rd
      exact k3
    · cases hv
  · rw[if_neg hj]at hv
    exact rf.2 j u x hv R1

theorem Vf (wf:WF w h c) (T:Ty):∃c',WF w (h ++ [.row T []]) c'∧Ext w h c w (h ++ [.row T []]) c'∧dK w (h ++ [.row T []]) c' (.row h.length 0) (.slice none 0 0):=by
  obtain ⟨c',k1,k2,k3⟩:=Ms (id:=h.length) (T:=T) (FL wf 1) (by simp) (by rw[kg (Nat.le_refl _)]; simp[az.at])
  have e:(h++List.replicate 1 ca.free).set h.length (.row T [])=h ++ [.row T []]:=by simp
  rw[e]at k1 k2 k3
  exact ⟨c',k1,(tN 1).trans k2,k3⟩

theorem R2 (wf:WF w h c) (T:Ty) (rw:Bool):∃c',WF w (h ++ [AP T rw]) c'∧Ext w h c w (h ++ [AP T rw]) c'∧dK w (h ++ [AP T rw]) c' (w3 T rw h.length) (.slice none 0 0):=by
  unfold AP w3
  cases rw with
  | true=>exact Vf wf T
  | false =>
    simp only[cond_false]
    obtain ⟨c',k1,k2,k3⟩:=Iz (id:=h.length) (T:=T) (FL wf 1) (by simp) (by rw[kg (Nat.le_refl _)]; simp[az.at])
    have e:(h++List.replicate 1 ca.free).set h.length .tok=h ++ [.tok]:=by simp
    rw[e]at k1 k2 k3
    exact ⟨c',k1,(tN 1).trans k2,k3⟩

theorem Ek:∀(l:List (Nat × Ty)) (st:St) (c:kA) (a:Act),HH w c st a→∃c',HH w c' (FE l st) a∧Ext w st.hp c w (FE l st).hp c'
  | [],st,c,a,iQ=>⟨c,iQ, .refl _ _ _⟩
  | (d,T)::l,st,c,a,iQ=>by
    simp only[FE]
    split
    · rename_i he
      obtain ⟨c',k1,k2,k3⟩:=Vf iQ.wf T
      obtain ⟨c2,s2,x2⟩:=Ek l ⟨st.fr.set d (.row st.hp.length 0),st.hp ++ [.row T []]⟩ c' a (put_nil iQ he k1 k2 k3)
      exact ⟨c2,s2,k2.trans x2⟩
    · exact Ek l st c a iQ

theorem JZ {i:Nat} {cs ds:List V} (he:h.at i = .cells cs) (hl:ds.length=cs.length):Ext w h c w (h.set i (.cells ds)) c where
  os:=rfl
  tape:=rfl
  output:=rfl
  size:=Nat.le_refl _
  used:=fun j hj=>⟨by simpa using hj.1,by rw[nK]; split; simp; exact hj.2⟩
  same:=fun j hj hd=>by
    rw[nK]at hd ⊢
    split
    · rename_i hc
      obtain ⟨rfl,_⟩:=hc
      rw[he]
      exact ⟨hl.symm,rfl,rfl⟩
    · rename_i hc
      rw[if_neg hc]at hd
      exact ⟨DE (Gt hj.2 hd) (fun _ _ _ => .inr trivial),rfl,rfl⟩
  cell:=fun _ _ _ _=>rfl
  block:=fun _ _ _=>rfl
  wK:=fun b x _ ho=>by
    obtain ⟨j,f,g1,g2,g3⟩:=ho
    rw[nK]at g2
    split at g2
    · rename_i hc
      obtain ⟨rfl,_⟩:=hc
      exact ⟨i,f,g1,by rw[he]; exact g2,g3⟩
    · exact ⟨j,f,g1,g2,g3⟩
  ext:=rfl
  arr:=fun b arr e fz hb=>⟨arr,fz,hb,rfl⟩

theorem YL (wf:WF w h c) {i:Nat} {cs ds:List V} (he:h.at i = .cells cs) (hl:ds.length=cs.length) (C9:oJ w (h.set i (.cells ds)) c i (.cells ds)):WF w (h.set i (.cells ds)) c where
  lay:=wf.sA (JZ he hl)
  yw:=fun b x ho he'=>by
    obtain ⟨j,f,g1,g2,g3⟩:=ho
    refine wf.yw b x ?_ he'
    rw[nK]at g2
    split at g2
    · rename_i hc
      obtain ⟨rfl,_⟩:=hc
      exact ⟨i,f,g1,by rw[he]; exact g2,g3⟩
    · exact ⟨j,f,g1,g2,g3⟩
  pP:=wf.pP
  obj:=fun j hj=>by
    rw[nK]
    split
    · rename_i hc
      obtain ⟨rfl,_⟩:=hc
      exact C9
    · have ho:=wf.obj j (by simpa using hj)
      by_cases hv:(h.at j).live
      · exact ho.keep (JZ he hl) (fun _ _=>rfl) rfl rfl
      · have h0:h.at j = .free∨h.at j = .dead:=by revert hv; cases h.at j <;> simp[ca.live]
        rcases h0 with h0|h0 <;> rw[h0] <;> trivial
  inj:=fun j k b hj hk h1 h2=>by
    have key:∀j,(az.at (h.set i (.cells ds)) j).live→(h.at j).live:=fun j hj=>by
      rw[nK]at hj
      split at hj
      · rename_i hc
        obtain ⟨rfl,_⟩:=hc
        rw[he]; trivial
      · exact hj
    exact wf.inj j k b (key j hj) (key k hk) h1 h2

theorem MN {i:Nat} {o':ca} (hf:∀f,(h.at i).from_ f=some 0) (Wn:∀f,o'.from_ f=some 0) (ur:(h.at i).iQ o') (km:o' ≠ .free):Ext w h c w (h.set i o') c where
  os:=rfl
  tape:=rfl
  output:=rfl
  size:=Nat.le_refl _
  used:=fun j hj=>⟨by simpa using hj.1,by rw[nK]; split; exact km; exact hj.2⟩
  same:=fun j hj hd=>by
    rw[nK]at hd ⊢
    split
    · rename_i hc
      obtain ⟨rfl,_⟩:=hc
      exact ⟨ur,rfl,rfl⟩
    · rename_i hc
      rw[if_neg hc]at hd
      exact ⟨DE (Gt hj.2 hd) (fun _ _ _ => .inr trivial),rfl,rfl⟩
  cell:=fun _ _ _ _=>rfl
  block:=fun _ _ _=>rfl
  wK:=fun b x _ ho=>by
    obtain ⟨j,f,g1,g2,g3⟩:=ho
    rw[nK]at g2
    split at g2
    · rename_i hc
      obtain ⟨rfl,_⟩:=hc
      rw[Wn]at g2
      cases g2
      exact ⟨i,0,g1,hf _,g3⟩
    · exact ⟨j,f,g1,g2,g3⟩
  ext:=rfl
  arr:=fun b arr e fz hb=>⟨arr,fz,hb,rfl⟩

theorem turn_wf (wf:WF w h c) {i:Nat} {o':ca} (hf:∀f,(h.at i).from_ f=some 0) (Wn:∀f,o'.from_ f=some 0) (ur:(h.at i).iQ o') (km:o' ≠ .free) (C9:oJ w (h.set i o') c i o'):WF w (h.set i o') c where
  lay:=wf.sA (MN hf Wn ur km)
  yw:=fun b x ho he'=>by
    obtain ⟨j,f,g1,g2,g3⟩:=ho
    refine wf.yw b x ?_ he'
    rw[nK]at g2
    split at g2
    · rename_i hc
      obtain ⟨rfl,_⟩:=hc
      rw[Wn]at g2
      cases g2
      exact ⟨i,0,g1,hf _,g3⟩
    · exact ⟨j,f,g1,g2,g3⟩
  pP:=wf.pP
  obj:=fun j hj=>by
    rw[nK]
    split
    · rename_i hc
      obtain ⟨rfl,_⟩:=hc
      exact C9
    · have ho:=wf.obj j (by simpa using hj)
      by_cases hv:(h.at j).live
      · exact ho.keep (MN hf Wn ur km) (fun _ _=>rfl) rfl rfl
      · have h0:h.at j = .free∨h.at j = .dead:=by revert hv; cases h.at j <;> simp[ca.live]
        rcases h0 with h0|h0 <;> rw[h0] <;> trivial
  inj:=fun j k b hj hk h1 h2=>by
    have key:∀j,(az.at (h.set i o') j).live→(h.at j).live:=fun j hj=>by
      rw[nK]at hj
      split at hj
      · rename_i hc
        obtain ⟨rfl,_⟩:=hc
        exact tM (hf 0)
      · exact hj
    exact wf.inj j k b (key j hj) (key k hk) h1 h2

theorem sb:∀(l:List (Nat × Nat × Ty × Bool)) (st:St) (c:kA) (a:Act),HH w c st a→∃c',HH w c' (AZ l st) a∧Ext w st.hp c w (AZ l st).hp c'
  | [],st,c,a,iQ=>⟨c,iQ, .refl _ _ _⟩
  | (i,o,T,rw)::l,st,c,a,iQ=>by
    simp only[AZ]
    split
    · rename_i cs Cs
      split
      · rename_i ho
        obtain ⟨c',k1,k2,k3⟩:=R2 iQ.wf T rw
        have hi:=az.gM Cs (by simp)
        have TQ:az.at (st.hp ++ [AP T rw]) i = .cells cs:=by rw[ly hi]; exact Cs
        have e:st.hp.set i (.cells (cs.set o (w3 T rw st.hp.length))) ++ [AP T rw]=(st.hp ++ [AP T rw]).set i (.cells (cs.set o (w3 T rw st.hp.length))):=by
          rw[List.set_append_left _ _ hi]
        rw[e]
        have hl:(cs.set o (w3 T rw st.hp.length)).length=cs.length:=by simp
        have x1:=JZ (w:=w) (c:=c') TQ hl
        have C9:=k1.obj i (by simp; omega)
        rw[TQ]at C9
        obtain ⟨b,arr,el,g1,g2,g3⟩:=C9
        have w1:=YL k1 TQ hl (by
          refine ⟨b,arr,el,g1,g2,?_⟩
          have g3':=g3.mono x1
          refine ⟨by simpa using g3'.1,fun j v d hv hd => ?_⟩
          rw[List.getElem?_set]at hv
          by_cases hj:o=j
          · subst hj
            rw[if_pos rfl]at hv
            split at hv
            · cases hv
              have rd:=g3.getD o undef
              rw[ho,List.getD,hd]at rd
              cases rd
              exact k3.mono x1
            · cases hv
          · rw[if_neg hj]at hv
            exact g3'.2 j v d hv hd)
        have x2:=k2.trans x1
        obtain ⟨c2,s2,x3⟩:=sb l ⟨st.fr,(st.hp ++ [AP T rw]).set i (.cells (cs.set o (w3 T rw st.hp.length)))⟩ c' a ⟨w1,iQ.fr.mono x2⟩
        exact ⟨c2,s2,x2.trans x3⟩
      · exact sb l st c a iQ
    · rename_i v Cs
      split
      · obtain ⟨c',k1,k2,k3⟩:=R2 iQ.wf T rw
        have hi:=az.gM Cs (by simp)
        have TQ:az.at (st.hp ++ [AP T rw]) i = .kW .cJ:=by rw[ly hi]; exact Cs
        have e:st.hp.set i (.kW (w3 T rw st.hp.length)) ++ [AP T rw]=(st.hp ++ [AP T rw]).set i (.kW (w3 T rw st.hp.length)):=by
          rw[List.set_append_left _ _ hi]
        rw[e]
        have hf:∀f,(az.at (st.hp ++ [AP T rw]) i).from_ f=some 0:=fun f=>by rw[TQ]; rfl
        have ur:(az.at (st.hp ++ [AP T rw]) i).iQ (.kW (w3 T rw st.hp.length)):=by rw[TQ]; trivial
        have x1:=MN (w:=w) (c:=c') hf (o' := .kW (w3 T rw st.hp.length)) (fun _=>rfl) ur (by simp)
        have C9:=k1.obj i (by simp; omega)
        rw[TQ]at C9
        obtain ⟨b,p,d,g1,g2,g3,g4⟩:=C9
        have w1:=turn_wf k1 hf (o' := .kW (w3 T rw st.hp.length)) (fun _=>rfl) ur (by simp) (by
          cases g4
          exact ⟨b,p,_,g1,g2,g3,k3.mono x1⟩)
        have x2:=k2.trans x1
        obtain ⟨c2,s2,x3⟩:=sb l ⟨st.fr,(st.hp ++ [AP T rw]).set i (.kW (w3 T rw st.hp.length))⟩ c' a ⟨w1,iQ.fr.mono x2⟩
        exact ⟨c2,s2,x2.trans x3⟩
      · exact sb l st c a iQ
    · exact sb l st c a iQ

theorem TR {w0:World} {h0:az} {c0:kA} {st:St} {a:Act} (iQ:HH w c st a) (x:Ext w0 h0 c0 w st.hp c) (hm:h0.length≤200) (hint:Hint) :
    ∃c',HH w c' (norm h0.length hint st) a∧Ext w0 h0 c0 w (norm h0.length hint st).hp c':=by
  obtain ⟨c,iQ,x⟩:∃c',HH w c' (UQ h0.length hint ⟨D8 hint.live hint.drop st.fr,st.hp⟩) a∧Ext w0 h0 c0 w (UQ h0.length hint ⟨D8 hint.live hint.drop st.fr,st.hp⟩).hp c':=by
    unfold UQ
    split
    · exact ⟨c,⟨iQ.wf,HK iQ.fr _ _⟩,x⟩
    · exact ML (st:=⟨D8 hint.live hint.drop st.fr,st.hp⟩) ⟨iQ.wf,HK iQ.fr _ _⟩ x hm
  obtain ⟨c1,s1,x1⟩:=A3 hint.own _ c a iQ
  obtain ⟨c2,s2,x2⟩:=Ek hint.rows _ c1 a s1
  obtain ⟨c3,s3,x3⟩:=sb hint.cells _ c2 a s2
  exact ML s3 (((x.trans x1).trans x2).trans x3) hm

theorem TS {w0:World} {h0:az} {c0:kA} {st:St} {a:Act} (iQ:HH w c st a) (x:Ext w0 h0 c0 w st.hp c) (hm:h0.length≤200) (hint:Hint) :
    ∃c',HH w c' (trim h0.length hint st) a∧Ext w0 h0 c0 w (trim h0.length hint st).hp c' :=
  ML (st:=⟨D8 hint.out [] st.fr,st.hp⟩) ⟨iQ.wf,HK iQ.fr _ _⟩ x hm


theorem MO:∀(ts:List Nat) (vs:List V) (ds:List Value),ts.length=ds.length→cK w h c vs ds→cK w h c (Te tt ts vs) ds
  | [],vs,ds,hl,r=>by
    have:ds = []:=List.eq_nil_of_length_eq_zero hl.symm
    subst this
    exact .nil
  | t::ts, [],ds,hl,r=>by
    have:ds = []:=List.eq_nil_of_length_eq_zero (by simpa using r.1.symm)
    subst this
    simp at hl
  | t::ts,v::vs, [],hl,r=>by simp at hl
  | t::ts,v::vs,d::ds,hl,r => .cons (Pb r.head) (MO ts vs ds (by simpa using hl) r.tail)
end

section
variable {P:Program} {tt:dO} {R:Type}

def uv (fr:List V) (log:List (Nat × V)):List V:=log.foldr (fun x f=>f.set x.1 x.2) fr
theorem yD (fr:List V):∀log:List (Nat × V),(uv fr log).length=fr.length
  | []=>rfl
  | x::log=>by simp[uv]; exact yD fr log

theorem beqF (a b:Nat):Nat.beq a b=decide (a=b):=by
  cases hb:Nat.beq a b with
  | true=>simp[Nat.eq_of_beq_eq_true hb]
  | false=>simp[Nat.ne_of_beq_eq_false hb]

theorem look_eq (fr:List V) (t:Nat) (d:V) (hd:fr.getD t .undef=d):∀log:List (Nat × V),(∀x∈log,x.1<fr.length)→Hd log t d=(uv fr log).getD t .undef
  | [],_=>hd.symm
  | x::log,h=>by
    have ih:=look_eq fr t d hd log fun y hy=>h y (by simp[hy])
    have hx:=h x (by simp)
    have hl:=yD fr log
    have e:uv fr (x::log)=(uv fr log).set x.1 x.2:=rfl
    have e2:Hd (x::log) t d=cond (Nat.beq x.1 t) x.2 (Hd log t d):=rfl
    rw[e,e2,beqF,ih]
    by_cases Qc:x.1=t
    · subst Qc
      simp[List.getD,List.getElem?_set_self,hl,hx]
    · simp[Qc,List.getD,List.getElem?_set_ne Qc]

theorem R3 {β:Type} (t:Nat) (d:V) (k:V→β):∀log:List (Nat × V),L8 log t d k=k (Hd log t d)
  | []=>rfl
  | x::log=>by
    have ih:=R3 t d k log
    have e1:L8 (x::log) t d k=cond (Nat.beq x.1 t) (k x.2) (L8 log t d k):=rfl
    have e2:Hd (x::log) t d=cond (Nat.beq x.1 t) x.2 (Hd log t d):=rfl
    rw[e1,e2,ih]
    cases Nat.beq x.1 t <;> rfl

noncomputable def yE (log:List (Nat × V)):Nat→List V→List V
  | _, [] => []
  | i,v::r=>Hd log i v::yE log (i+1) r
theorem KL {β:Type} (log:List (Nat × V)):∀(fr:List V) (i:Nat) (k:List V→β),
    List.rec (motive:=fun _=>Nat→(List V→β)→β) (fun _ k=>k []) (fun v _ ih i k=>L8 log i v fun v'=>ih (i+1) fun r=>k (v'::r)) fr i k=k (yE log i fr)
  | [],_,_=>rfl
  | v::fr,i,k=>by
    show L8 log i v (fun v'=>List.rec (motive:=fun _=>Nat→(List V→β)→β) (fun _ k=>k []) (fun v _ ih i k=>L8 log i v fun v'=>ih (i+1) fun r=>k (v'::r)) fr (i+1) fun r=>k (v'::r))=_
    rw[R3,KL log fr (i+1)]
    rfl
theorem Hf (log:List (Nat × V)):∀(fr:List V) (i j:Nat),(yE log i fr)[j]? = (fr[j]?).map fun v=>Hd log (i+j) v
  | [],_,_=>by simp[yE]
  | v::fr,i,0=>by simp[yE]
  | v::fr,i,j+1=>by
    simp only[yE,List.getElem?_cons_succ]
    rw[Hf log fr (i+1) j]
    congr 1
    funext v
    congr 1
    omega
theorem WR {β:Type} (fr:List V) (log:List (Nat × V)) (hl:∀x∈log,x.1<fr.length) (k:List V→β):Tb log fr k=k (uv fr log):=by
  have h1:Tb log fr k=k (yE log 0 fr):=KL log fr 0 k
  rw[h1]
  congr 1
  apply List.ext_getElem?
  intro j
  rw[Hf,Nat.zero_add]
  cases hj:fr[j]? with
  | none =>
    have:(uv fr log)[j]? = none:=by
      rw[List.getElem?_eq_none_iff,yD]
      exact List.getElem?_eq_none_iff.1 hj
    rw[this]; rfl
  | some v =>
    have lp:j<(uv fr log).length:=by rw[yD]; exact (List.getElem?_eq_some_iff.1 hj).1
    have h2:=look_eq fr j v (by simp[List.getD,hj]) log hl
    rw[Option.map_some,h2]
    simp[List.getD,List.getElem?_eq_getElem lp]

theorem evF_eq (fr:List V) (log:List (Nat × V)) (hl:∀x∈log,x.1<fr.length):evF fr log=ev (uv fr log):=by
  funext x
  cases x with
  | tmp t=>exact look_eq fr t _ rfl log hl
  | _=>rfl

theorem Vg (fr:List V) (log:List (Nat × V)) (dst:Option Nat) (v:V):uv fr (OW fr.length log dst v)=mX (uv fr log) dst v:=by
  cases dst with
  | none=>rfl
  | some d =>
    unfold OW mX
    simp only
    cases h:Nat.blt d fr.length with
    | true=>rfl
    | false =>
      have:¬d<fr.length:=by
        intro h2
        have h3:Nat.blt d fr.length=true:=by simpa using h2
        rw[h3]at h
        cases h
      simp only[cond_false]
      rw[List.set_eq_of_length_le (by rw[yD]; omega)]
theorem Vh {fr:List V} {log:List (Nat × V)} (hl:∀x∈log,x.1<fr.length) (dst:Option Nat) (v:V):∀x∈OW fr.length log dst v,x.1<fr.length:=by
  cases dst with
  | none=>exact hl
  | some d =>
    unfold OW
    simp only
    cases h:Nat.blt d fr.length with
    | true =>
      intro x hx
      rcases List.mem_cons.1 hx with rfl|hx
      · simpa using h
      · exact hl x hx
    | false=>exact hl

theorem YM {E:Env R} {drawn:Option Nat} {id:Nat} {o:Oper} {st:St} {k:St→Option R}:zO tt E drawn id o st k=X8 tt E drawn id o (ev st.fr) st.hp fun v h=>k ⟨mX st.fr o.dst v,h⟩:=by
  unfold zO X8
  cases fB tt o.op <;> rfl

theorem WS {all:List Oper} {o:Oper} {fr:List V} {log:List (Nat × V)} {hp:az} (hl:∀x∈log,x.1<fr.length) {run skip:St→Option R} {runF skipF:List (Nat × V)→Option R}
    (hr:∀log,(∀x∈log,x.1<fr.length)→runF log=run ⟨uv fr log,hp⟩) (hs:∀log,(∀x∈log,x.1<fr.length)→skipF log=skip ⟨uv fr log,hp⟩) :
    Tc all o fr log runF skipF=vN all o ⟨uv fr log,hp⟩ run skip:=by
  unfold Tc vN
  cases o.guard with
  | none=>exact hr log hl
  | some jw =>
    obtain ⟨j,want⟩:=jw
    simp only
    cases (all[j]?).bind (·.dst)with
    | none=>rfl
    | some d =>
      simp only
      rw[look_eq fr d _ rfl log hl]
      cases hb:(uv fr log).getD d .undef with
      | bool b =>
        have hd:d<fr.length:=by
          rcases Nat.lt_or_ge d fr.length with h|h
          · exact h
          · rw[←yD fr log]at h
            simp[List.getD,List.getElem?_eq_none h]at hb
        have h2:∀v:V,∀x∈(d,v)::log,x.1<fr.length:=fun v x hx=>by
          rcases List.mem_cons.1 hx with rfl|hx
          · exact hd
          · exact hl x hx
        simp only
        rw[hr _ (h2 _),hs _ (h2 _),hr _ (h2 _),hs _ (h2 _)]
        rfl
      | tuple vs =>
        cases vs with
        | nil=>exact hs log hl
        | cons _ _=>rfl
      | _=>rfl

theorem Qx {E:Env R} {drawn:Option Nat} {all:List Oper} {fr:List V}:∀(l:List Oper) (id:Nat) (log:List (Nat × V)) (hp:az) (k:St→Option R),(∀x∈log,x.1<fr.length) →
    Td tt E drawn all fr.length fr l id log hp k=L5 tt E drawn all l id ⟨uv fr log,hp⟩ k
  | [],_,log,hp,k,hl=>by
    simp only[Td,L5]
    rw[WR fr log hl,Dv]
  | o::l,id,log,hp,k,hl=>by
    simp only[Td,L5,D6]
    refine WS hl (fun log hl => ?_) fun log hl => ?_
    · rw[YM,evF_eq fr log hl]
      congr 1
      funext v h
      rw[Dv,Qx l _ _ _ _ (Vh hl o.dst v),Vg]
    · rw[Qx l _ _ _ _ (Vh hl o.dst _),Vg]

theorem regionF_eq {E:Env R} {ops:List Oper} {draw:Bool} {st:St} {k:St→Option R}:regionF tt E ops draw st k=Gr tt E ops draw st k:=by
  unfold regionF Gr
  simp only
  have h:=fun (dr:Option Nat) (hp:az)=>Qx (tt:=tt) (E:=E) (drawn:=dr) (all:=ops) (fr:=st.fr) ops st.hp.length [] hp k (by simp)
  rw[h,h]
  rfl
end

section
variable {P:Program} {tt:dO} {w w':World} {h h':az} {c c':kA} {R:Type}

def Ex.out:Ex→Exit
  | .normal => .normal
  | .exit id => .exit id
  | .goto l => .goto l
  | .ret => .ret

theorem WT {a b:Option R} {r:R} (h:anyT a b=some r):a=some r∧b=some r:=by
  unfold anyT at h
  split at h
  · rename_i e; exact ⟨h,e▸h⟩
  · cases h

theorem WU {b0:Code} {Q:Exit→Act→World→Prop} (I:Nat→Act→World→Prop) (h0:∀a w, ¬I 0 a w) (round:∀n a w,I (n+1) a w→b0.wp P (Exit.then (I n) Q) a w) {n:Nat} {a:Act} {w:World} (hI:I n a w) :
    (Code.loop b0).wp P Q a w:=by
  intro b k cs
  have key:∀n a w,I n a w→∃e a' w',Q e a' w'∧Arrives P (lone (b.at a (.code b0 :: .inLoop b0::k)) cs w) b k cs e a' w':=by
    intro n
    induction n with
    | zero=>exact fun a w h=>(h0 a w h).elim
    | succ n ih =>
      intro a w hI
      obtain ⟨e,a1,w1,hq,BX⟩:=round n a w hI b (.inLoop b0::k) cs
      cases e with
      | normal =>
        obtain ⟨e2,a2,w2,VX,harr2⟩:=ih a1 w1 hq
        exact ⟨e2,a2,w2,VX, .of_steps (Steps.trans BX (.one step_inLoop)) harr2⟩
      | exit id=>exact ⟨_,a1,w1,hq, .pass (x := .inLoop b0) rfl (fun _ _ => .inl (by simp)) BX⟩
      | goto l=>exact ⟨_,a1,w1,hq, .pass (x := .inLoop b0) rfl (fun _ _ => .inl (by simp)) BX⟩
      | ret=>exact ⟨_,a1,w1,hq, .pass (x := .inLoop b0) rfl (fun _ _ => .inl (by simp)) BX⟩
      | panic ch=>exact ⟨_,a1,w1,hq, .pass (x := .inLoop b0) rfl (fun _ _ => .inl (by simp)) BX⟩
      | outgrown=>exact ⟨_,a1,w1,hq, .pass (x := .inLoop b0) rfl (fun _ _ => .inl (by simp)) BX⟩
  obtain ⟨e,a',w',hq,BX⟩:=key n a w hI
  exact ⟨e,a',w',hq, .of_steps (.one step_loop) BX⟩

def cR (tt:dO) (E:Env R) (L:Nat→Option (Hint × cr R)) (m:Nat) (a:Code):Prop :=
  ∀hint ls,L (keyOf a)=some (hint,ls)→∀st (K:Ex→St→Option R) r,ls st K=some r→∃n,CM (lv tt E L m a) (norm m hint) n st (fun e st=>K e (trim m hint st))=some r

def aP:Code→List Code
  | .seq a b=>aP a++aP b
  | .cond _ a b=>aP a++aP b
  | .block _ a=>aP a
  | .loop a=>a::aP a
  | _ => []

theorem R4 (body:cr R):∀n st K,UR body n st K=CM body id n st K
  | 0,_,_=>rfl
  | n+1,st,K=>by
    simp only[UR,CM]
    congr 1
    funext e tK
    cases e <;> first|rfl|exact R4 body n tK K

section
variable {w0:World} {h0:az} {c0:kA} {D:List Deferred}

structure At (w0:World) (h0:az) (c0:kA) (D:List Deferred) (w:World) (st:St) (a:Act) (c:kA):Prop where
  iQ:HH w c st a
  ext:Ext w0 h0 c0 w st.hp c
  defers:a.defers=D

def Ends (w0:World) (h0:az) (c0:kA) (D:List Deferred) (K:Ex→St→Option R) (r:R) (Q:Exit→Act→World→Prop):Prop :=
  ∀e st a w c,At w0 h0 c0 D w st a c→K e st=some r→Q e.out a w

theorem nV (T:yb P tt) (hm:P.follows .mixedOrders=true) {E:Env R} (hE:p6 P E) {L:Nat→Option (Hint × cr R)} (hlen:h0.length≤200) {r:R}:∀(code:Code),(∀a∈aP code,cR tt E L h0.length a) →
    ∀(Q:Exit→Act→World→Prop) (K:Ex→St→Option R) (st:St) (a:Act) (w:World) (c:kA),At w0 h0 c0 D w st a c→lv tt E L h0.length code st K=some r→Ends w0 h0 c0 D K r Q→code.wp P Q a w
  | .skip,_,Q,K,st,a,w,c,at_,hk,he=>wp_skip (he .normal st a w c at_ hk)
  | .region id ops draw,_,Q,K,st,a,w,c,at_,hk,he=>by
    simp only[lv,regionF_eq]at hk
    have go:Yz w c st a (fun tK=>K .normal tK) r (Q .normal):=fun a' w' tK c' s x d k=>he .normal tK a' w' c' ⟨s,at_.ext.trans x,d.trans at_.defers⟩ k
    cases draw with
    | true=>exact TP T hm hE hk at_.iQ go
    | false=>exact Qr T hE hk at_.iQ go
  | .seq x y,hl,Q,K,st,a,w,c,at_,hk,he=>by
    simp only[lv]at hk
    refine wp_seq (nV T hm hE hlen x (fun b hb=>hl b (by simp[aP,hb])) _ _ st a w c at_ hk fun e tK a' w' c' at' rN => ?_)
    cases e with
    | normal=>exact nV T hm hE hlen y (fun b hb=>hl b (by simp[aP,hb])) Q K tK a' w' c' at' rN he
    | exit i=>exact he (.exit i) tK a' w' c' at' rN
    | goto l=>exact he (.goto l) tK a' w' c' at' rN
    | ret=>exact he .ret tK a' w' c' at' rN
  | .cond cnd x y,hl,Q,K,st,a,w,c,at_,hk,he=>by
    simp only[lv]at hk
    split at hk <;> try (first|cases hk)
    · rename_i t ht
      have rc:=TJ at_.iQ.fr cnd
      rw[ht]at rc
      generalize hv:a.eval cnd=v at rc
      cases rc
      refine wp_cond hv ?_
      cases t with
      | true=>exact nV T hm hE hlen x (fun b hb=>hl b (by simp[aP,hb])) Q K st a w c at_ hk he
      | false=>exact nV T hm hE hlen y (fun b hb=>hl b (by simp[aP,hb])) Q K st a w c at_ hk he
    · rename_i ht
      have rc:=TJ at_.iQ.fr cnd
      rw[ht]at rc
      generalize hv:a.eval cnd=v at rc
      cases rc with
      | GK t =>
        refine wp_cond hv ?_
        obtain ⟨h1,h2⟩:=WT hk
        cases t with
        | true=>exact nV T hm hE hlen x (fun b hb=>hl b (by simp[aP,hb])) Q K st a w c at_ h1 he
        | false=>exact nV T hm hE hlen y (fun b hb=>hl b (by simp[aP,hb])) Q K st a w c at_ h2 he
  | .block id x,hl,Q,K,st,a,w,c,at_,hk,he=>by
    simp only[lv]at hk
    refine wp_block (nV T hm hE hlen x (fun b hb=>hl b (by simp[aP,hb])) _ _ st a w c at_ hk fun e tK a' w' c' at' rN => ?_)
    cases e with
    | normal=>exact he .normal tK a' w' c' at' rN
    | exit i =>
      simp only[Ex.out,Exit.inBlock]
      simp only at rN
      split
      · rename_i hi
        rw[if_pos hi]at rN
        exact he .normal tK a' w' c' at' rN
      · rename_i hi
        rw[if_neg hi]at rN
        exact he (.exit i) tK a' w' c' at' rN
    | goto l=>exact he (.goto l) tK a' w' c' at' rN
    | ret=>exact he .ret tK a' w' c' at' rN
  | .loop x,hl,Q,K,st,a,w,c,at_,hk,he=>by
    have hx:∀b∈aP x,cR tt E L h0.length b:=fun b hb=>hl b (by simp[aP,hb])
    have main:∀(f g:St→St),(∀w st a c,At w0 h0 c0 D w st a c→∃c',At w0 h0 c0 D w (f st) a c')→(∀w st a c,At w0 h0 c0 D w st a c→∃c',At w0 h0 c0 D w (g st) a c') →
        ∀n st a w c,At w0 h0 c0 D w st a c→CM (lv tt E L h0.length x) f n st (fun e st=>K e (g st))=some r→(Code.loop x).wp P Q a w:=by
      intro f g hf hg n st a w c at_ hk
      refine WU (fun n a w=>∃st c,At w0 h0 c0 D w st a c∧CM (lv tt E L h0.length x) f n st (fun e st=>K e (g st))=some r) (fun a w => ?_) (fun n a w => ?_) ⟨st,c,at_,hk⟩
      · rintro ⟨st,c,_,hk⟩
        cases hk
      · rintro ⟨st,c,at_,hk⟩
        simp only[CM]at hk
        refine nV T hm hE hlen x hx _ _ st a w c at_ hk fun e tK a' w' c' at' rN => ?_
        cases e with
        | normal =>
          obtain ⟨c2,at2⟩:=hf w' tK a' c' at'
          exact ⟨f tK,c2,at2,rN⟩
        | exit i=>obtain ⟨c2,at2⟩:=hg w' tK a' c' at'; exact he (.exit i) _ a' w' c2 at2 rN
        | goto l=>obtain ⟨c2,at2⟩:=hg w' tK a' c' at'; exact he (.goto l) _ a' w' c2 at2 rN
        | ret=>obtain ⟨c2,at2⟩:=hg w' tK a' c' at'; exact he .ret _ a' w' c2 at2 rN
    simp only[lv]at hk
    split at hk
    · rename_i hint ls hL
      have hnorm:∀w st a c,At w0 h0 c0 D w st a c→∃c',At w0 h0 c0 D w (norm h0.length hint st) a c':=fun w st a c at_=>by
        obtain ⟨c',s',x'⟩:=TR at_.iQ at_.ext hlen hint
        exact ⟨c',s',x',at_.defers⟩
      have htrim:∀w st a c,At w0 h0 c0 D w st a c→∃c',At w0 h0 c0 D w (trim h0.length hint st) a c':=fun w st a c at_=>by
        obtain ⟨c',s',x'⟩:=TS at_.iQ at_.ext hlen hint
        exact ⟨c',s',x',at_.defers⟩
      obtain ⟨n,hn⟩:=hl x (by simp[aP]) hint ls hL _ _ _ hk
      obtain ⟨c',at'⟩:=hnorm w st a c at_
      exact main _ _ hnorm htrim n _ a w c' at' hn
    · rw[R4]at hk
      exact main id id (fun w st a c h=>⟨c,h⟩) (fun w st a c h=>⟨c,h⟩) 70 st a w c at_ hk
  | .exit id,_,Q,K,st,a,w,c,at_,hk,he=>wp_exit (he (.exit id) st a w c at_ hk)
  | .ret,_,Q,K,st,a,w,c,at_,hk,he=>wp_ret (he .ret st a w c at_ hk)
  | .label _,_,_,_,_,_,_,_,_,hk,_=>by simp[lv]at hk
  | .goto _,_,_,_,_,_,_,_,_,hk,_=>by simp[lv]at hk
  | .scope _,_,_,_,_,_,_,_,_,hk,_=>by simp[lv]at hk
  | .refuse _,_,_,_,_,_,_,_,_,hk,_=>by simp[lv]at hk
end

theorem HL (T:yb P tt) {st:St} {a:Act} (iQ:HH w c st a):∀(rs:List ResultVar) {k:List V→Option R} {r:R},Rg tt st rs k=some r →
    ∃vs ds,k vs=some r∧cK w st.hp c vs ds∧ds.length=rs.length∧(rs.mapM (m:=Sem) fun | .tmp t=>pure (a.tmps.getD t undef) | .cell b t=>do loadVar t (←asAddr (a.tmps.getD b undef))).run P w = .ok ds w
  | [],k,r,hk=>⟨[], [],hk, .nil,rfl,by simp⟩
  | .tmp t::rs,k,r,hk=>by
    simp only[Rg]at hk
    obtain ⟨vs,ds,h1,h2,h3,h4⟩:=HL T iQ rs hk
    refine ⟨_,a.tmps.getD t undef::ds,h1, .cons ?_ h2,by simp[h3],?_⟩
    · have:=iQ.fr.getD t undef
      simpa [List.getD,Array.getD_eq_getD_getElem?]using this
    · simp only[List.mapM_cons,Sem.run_bind,Sem.run_pure,Result.andThen_ok,h4]
  | .cell b t::rs,k,r,hk=>by
    simp only[Rg]at hk
    split at hk <;> try (first|cases hk)
    rename_i i o hp
    split at hk <;> try (first|cases hk)
    rename_i cs Cs
    have hl:=Mk (P:=P) T iQ.wf (t:=t) (a := .ptr i o) (a':=a.tmps.getD b undef) (lim:=none) (k:=fun v=>Rg tt st rs fun vs=>k (v::vs)) (r:=r) (by
        have:=iQ.fr.getD b undef
        rw[hp]at this
        simpa [List.getD,Array.getD_eq_getD_getElem?]using this) (by simp only[EV,if_true,Cs]; exact hk)
    obtain ⟨v,v',g1,g2,g3⟩:=hl
    obtain ⟨vs,ds,h1,h2,h3,h4⟩:=HL T iQ rs g3
    refine ⟨_,v'::ds,h1, .cons g2 h2,by simp[h3],?_⟩
    have hb:(do loadVar t (←asAddr (a.tmps.getD b undef)):Sem Value).run P w = .ok v' w:=by
      have rb:=iQ.fr.getD b undef
      rw[hp]at rb
      have e:a.tmps.toList.getD b undef=a.tmps.getD b undef:=by simp[List.getD,Array.getD_eq_getD_getElem?]
      rw[e]at rb
      generalize a.tmps.getD b undef=q at rb g1
      cases rb with
      | ptr hu hv =>
        obtain ⟨b',rfl,_⟩:=hv
        simpa [Instr.loadAt,Instr.sureAddr,asAddr]using g1
    simp only[List.mapM_cons,Sem.run_bind,hb,Sem.run_pure,Result.andThen_ok,h4]

theorem Ox {w0:World} {h0:az} {c0:kA} {ts:List Nat} {keep:Bool} {vs:List V} {ds:List Value} (wf:WF w h c) (r:cK w h c vs ds) (x:Ext w0 h0 c0 w h c) (hm:h0.length≤200) (hts:ts.length=ds.length) {k:V→az→Option R} {q:R}
    (hk:LB tt ts h0.length keep vs h k=some q):∃v h' c',WF w h' c'∧Ext w0 h0 c0 w h' c'∧dK w h' c' v (if h:ds.length=1 then ds[0]else .tuple ds.toArray)∧k v h'=some q:=by
  unfold LB at hk
  have main:∀(ws:List V) (h1:az),WF w h1 c→cK w h1 c ws ds→Ext w0 h0 c0 w h1 c →
      k (match V.yt (yp (reach h1 256 (List.range h0.length++V.s6 ws) [])) ws with | [v]=>v|l => .tuple l) (h1.pick (reach h1 256 (List.range h0.length++V.s6 ws) []))=some q →
      ∃v h' c',WF w h' c'∧Ext w0 h0 c0 w h' c'∧dK w h' c' v (if h:ds.length=1 then ds[0]else .tuple ds.toArray)∧k v h'=some q:=by
    intro ws h1 wf1 r1 x1 hk
    obtain ⟨g1,g2⟩:=KK h1 (m:=h0.length) (n:=256) (by omega) (V.s6 ws)
    have rr:=He (ord:=reach h1 256 (List.range h0.length++V.s6 ws) []) r1
    refine ⟨_,_,_,IL wf1 g1,R0 x1 g2,?_,hk⟩
    have hlen:=rr.1
    generalize V.yt (yp (reach h1 256 (List.range h0.length++V.s6 ws) [])) ws=us at rr hlen
    split
    · rename_i v
      have h1:ds.length=1:=by simpa using hlen.symm
      rw[dif_pos h1]
      exact rr.2 0 v _ rfl (List.getElem?_eq_getElem _)
    · rename_i km
      have h1:¬ds.length=1:=fun e=>by
        rw[e]at hlen
        match us,hlen with
        | [v],_=>exact km v rfl
      rw[dif_neg h1]
      exact .tuple (by simpa using hlen) fun j v d hv hd=>rr.2 j v d hv (by simpa using hd)
  cases keep with
  | true=>exact main vs h wf r x hk
  | false =>
    simp only[Bool.false_eq_true,if_false]at hk
    exact main _ _ (CS _ _ wf) (MO ts _ ds hts (Pa wf r)) (x.trans (A1 _ _)) hk

theorem bj (T:yb P tt) (hm:P.follows .mixedOrders=true) {E:Env R} (hE:p6 P E) {L:Nat→Option (Hint × cr R)} {g:Nat} {fn:Func} {code:Code} {keep:Bool} (hf:P.funcs[g]? = some fn) (hb:fn.body=some code)
    (hn:(fn.name == "runtime.NumGoroutine")=false) (hr:fn.results.size=fn.resultTypes.size) (m:Nat) (hl:∀a∈aP code,cR tt E L m a):Spec.Yv P g m (iP tt E L keep fn code):=by
  refine Spec.Yv.of_body hf hn (by rw[hb]; rfl) fun vs h k r hml hk w c args wf ra => ?_
  subst hml
  refine calls_of_wp hf hb ?_
  unfold iP at hk
  split at hk
  · cases hk
  rename_i h200
  have hlen:h.length≤200:=by omega
  have hfr:cK w h c (vs++List.replicate (fn.ntmps - vs.length) .undef) (args++Array.replicate (fn.ntmps - args.size) undef).toList:=by
    have e:vs.length=args.size:=by simpa using ra.1
    rw[e]
    simpa using ra.append (cK.KY (fn.ntmps - args.size) undef)
  refine nV T hm hE (w0:=w) (h0:=h) (c0:=c) (D := []) hlen code hl _ _ _ _ w c ⟨⟨wf,hfr⟩, .refl _ _ _,rfl⟩ hk fun e st a w' c' at' rN => ?_
  have fin:Rg tt st fn.results.toList (fun vs=>LB tt fn.resultTypes.toList h.length keep vs st.hp k)=some r →
      a.defers = []∧∃v,(results fn a.tmps).run P w' = .ok v w'∧∃d,Ending.returned v=Ending.returned d∧∃u h' c',WF w' h' c'∧Ext w h c w' h' c'∧dK w' h' c' u d∧k u h'=some r:=by
    intro hk
    obtain ⟨vs,ds,g1,g2,g3,g4⟩:=HL T at'.iQ _ hk
    obtain ⟨u,h',c2,k1,k2,k3,k4⟩:=Ox at'.iQ.wf g2 at'.ext hlen (by simp[g3,hr]) g1
    refine ⟨at'.defers,_,?_,_,rfl,u,h',c2,k1,k2,k3,k4⟩
    unfold results
    simp only[Sem.run_bind,Array.mapM_eq_mapM_toList,map_eq_pure_bind,Sem.run_pure]
    refine (congrArg (fun z:Result (List Value)=>(z.andThen fun a w'=>Result.ok a.toArray w').andThen fun a w'=>Result.ok (if h:a.size=1 then a[0]else Value.tuple a) w') g4).trans ?_
    simp
  cases e with
  | normal=>exact fin rN
  | ret=>exact fin rN
  | exit i=>cases rN
  | goto l=>cases rN
end

inductive eW where
  | undef|eQ|cJ|aV|oN|cX|iface
  | FA (t:Nat) (k:IntKind) (n:Int)
  | int (k:IntKind)|bool|str
  | ptr (i o:Nat)
  | sl (T:Ty)|MP (T:Ty) (i:Nat)
  | row (i:Nat)
  | map (i:Nat)
  | fn (f:Nat)
  deriving DecidableEq

def eW.den:eW→Type
  | .int _=>Int
  | .bool=>Bool
  | .str=>aj
  | .sl T=>List T.den
  | .MP T _=>List T.den
  | .row _=>Nat
  | _=>Unit

def eW.enc:(p:eW)→p.den→V
  | .undef,_ => .undef
  | .eQ,_ => .eQ
  | .cJ,_ => .cJ
  | .aV,_ => .aV
  | .oN,_ => .oN
  | .cX,_ => .cX
  | .iface,_ => .iface
  | .FA t k n,_ => .FA t k n
  | .int k,(n:Int) => .int k n
  | .bool,(b:Bool) => .bool b
  | .str,(s:aj) => .str s
  | .ptr i o,_ => .ptr i o
  | .sl T,(l:List T.den) => .sl T l .no
  | .MP T i,(l:List T.den) => .sl T l (.own i)
  | .row i,(n:Nat) => .row i n
  | .map i,_ => .map i
  | .fn f,_ => .func f [] []

def YN (k:IntKind):V→Option Int | .int k' n=>if k'=k then some n else none|_=>none
def YO:V→Option Bool | .bool b=>some b|_=>none
def YP:V→Option aj | .str s=>some s|_=>none
def YQ (T:Ty):V→Option (List T.den) | .sl T' l .no=>if h:T'=T then some (h▸l)else none|_=>none
def YR (T:Ty) (i:Nat):V→Option (List T.den) | .sl T' l (.own j)=>if h:T'=T then (if j=i then some (h▸l)else none)else none|_=>none
def YS (i:Nat):V→Option Nat | .row j n=>if j=i then some n else none|_=>none
def YT (i o:Nat):V→Option Unit | .ptr j q=>if j=i∧q=o then some ()else none|_=>none
def YU (i:Nat):V→Option Unit | .map j=>if j=i then some ()else none|_=>none
def YV (f:Nat):V→Option Unit | .func g [] []=>if g=f then some ()else none|_=>none
def YW:V→Option Unit | .undef=>some ()|_=>none
def YX:V→Option Unit | .eQ=>some ()|_=>none
def YY:V→Option Unit | .cJ=>some ()|_=>none
def YZ:V→Option Unit | .aV=>some ()|_=>none
def Y0:V→Option Unit | .oN=>some ()|_=>none
def Y1:V→Option Unit | .cX=>some ()|_=>none
def Y2:V→Option Unit | .iface=>some ()|_=>none
def Y3 (t:Nat) (k:IntKind) (n:Int):V→Option Unit | .FA t' k' n'=>if t'=t∧k'=k∧n'=n then some ()else none|_=>none

theorem Y4 {k:IntKind} {v:V} {x:Int} (h:YN k v=some x):v = .int k x:=by
  unfold YN at h
  split at h
  · split at h
    · rename_i e; subst e; cases h; rfl
    · cases h
  · cases h
theorem Y5 {v:V} {x:Bool} (h:YO v=some x):v = .bool x:=by unfold YO at h; split at h <;> first|(cases h; rfl)|cases h
theorem Y6 {v:V} {x:aj} (h:YP v=some x):v = .str x:=by unfold YP at h; split at h <;> first|(cases h; rfl)|cases h
theorem Y7 {T:Ty} {v:V} {x:List T.den} (h:YQ T v=some x):v = .sl T x .no:=by
  unfold YQ at h
  split at h
  · split at h
    · rename_i e; subst e; cases h; rfl
    · cases h
  · cases h
theorem Y8 {T:Ty} {i:Nat} {v:V} {x:List T.den} (h:YR T i v=some x):v = .sl T x (.own i):=by
  unfold YR at h
  split at h
  · split at h
    · rename_i e
      subst e
      split at h
      · rename_i e; subst e; cases h; rfl
      · cases h
    · cases h
  · cases h
theorem Y9 {i:Nat} {v:V} {x:Nat} (h:YS i v=some x):v = .row i x:=by
  unfold YS at h
  split at h
  · split at h
    · rename_i e; subst e; cases h; rfl
    · cases h
  · cases h
theorem Za {i o:Nat} {v:V} {x:Unit} (h:YT i o v=some x):v = .ptr i o:=by
  unfold YT at h
  split at h
  · split at h
    · rename_i e; obtain ⟨rfl,rfl⟩:=e; rfl
    · cases h
  · cases h
theorem Zb {i:Nat} {v:V} {x:Unit} (h:YU i v=some x):v = .map i:=by
  unfold YU at h
  split at h
  · split at h
    · rename_i e; subst e; rfl
    · cases h
  · cases h
theorem Zc {f:Nat} {v:V} {x:Unit} (h:YV f v=some x):v = .func f [] []:=by
  unfold YV at h
  split at h
  · split at h
    · rename_i e; subst e; rfl
    · cases h
  · cases h
theorem Zd {v:V} {x:Unit} (h:YW v=some x):v = .undef:=by unfold YW at h; split at h <;> first|rfl|cases h
theorem Ze {v:V} {x:Unit} (h:YX v=some x):v = .eQ:=by unfold YX at h; split at h <;> first|rfl|cases h
theorem Zf {v:V} {x:Unit} (h:YY v=some x):v = .cJ:=by unfold YY at h; split at h <;> first|rfl|cases h
theorem Zg {v:V} {x:Unit} (h:YZ v=some x):v = .aV:=by unfold YZ at h; split at h <;> first|rfl|cases h
theorem Zh {v:V} {x:Unit} (h:Y0 v=some x):v = .oN:=by unfold Y0 at h; split at h <;> first|rfl|cases h
theorem Zi {v:V} {x:Unit} (h:Y2 v=some x):v = .iface:=by unfold Y2 at h; split at h <;> first|rfl|cases h
theorem Zj {t:Nat} {k:IntKind} {n:Int} {v:V} {x:Unit} (h:Y3 t k n v=some x):v = .FA t k n:=by
  unfold Y3 at h
  split at h
  · split at h
    · rename_i e; obtain ⟨rfl,rfl,rfl⟩:=e; rfl
    · cases h
  · cases h
theorem Zk {v:V} {x:Unit} (h:Y1 v=some x):v = .cX:=by unfold Y1 at h; split at h <;> first|rfl|cases h

def eW.dec:(p:eW)→V→Option p.den
  | .undef=>YW
  | .eQ=>YX
  | .cJ=>YY
  | .aV=>YZ
  | .oN=>Y0
  | .cX=>Y1
  | .iface=>Y2
  | .FA t k n=>Y3 t k n
  | .int k=>YN k
  | .bool=>YO
  | .str=>YP
  | .ptr i o=>YT i o
  | .sl T=>YQ T
  | .MP T i=>YR T i
  | .row i=>YS i
  | .map i=>YU i
  | .fn f=>YV f

theorem eW.HM (p:eW) {v:V} {x:p.den} (h:p.dec v=some x):v=p.enc x:=by
  cases p
  · exact Zd h
  · exact Ze h
  · exact Zf h
  · exact Zg h
  · exact Zh h
  · exact Zk h
  · exact Zi h
  · exact Zj h
  · exact Y4 h
  · exact Y5 h
  · exact Y6 h
  · exact Za h
  · exact Y7 h
  · exact Y8 h
  · exact Y9 h
  · exact Zb h
  · exact Zc h

def eW.av:List eW→Type
  | []=>Unit
  | p::ps=>p.den × eW.av ps
def eW.cV:(ps:List eW)→eW.av ps→List V
  | [],_ => []
  | p::ps,(x:p.den × eW.av ps)=>p.enc x.1::eW.cV ps x.2
def both {α β:Type}:Option α→Option β→Option (α × β)
  | some x,some y=>some (x,y)
  | _,_=>none
theorem LH {α β:Type} {a:Option α} {b:Option β} {z:α × β} (h:both a b=some z):a=some z.1∧b=some z.2:=by
  cases a <;> cases b <;> cases h
  exact ⟨rfl,rfl⟩
def eW.El:(ps:List eW)→List V→Option (eW.av ps)
  | [], []=>some ()
  | [],_::_=>none
  | _::_, []=>none
  | p::ps,v::vs=>both (p.dec v) (eW.El ps vs)
theorem eW.tO:∀(ps:List eW) {vs:List V} {x:eW.av ps},eW.El ps vs=some x→vs=eW.cV ps x
  | [], [],_,_=>rfl
  | [],_::_,_,h=>by cases h
  | _::_, [],_,h=>by cases h
  | p::ps,v::vs,x,h=>by
    obtain ⟨h1,h2⟩:=LH (a:=p.dec v) (b:=eW.El ps vs) h
    show v::vs=p.enc x.1::eW.cV ps x.2
    rw[←eW.HM p h1,←eW.tO ps h2]

inductive bN where
  | leaf (l:eW)
  | agg (ps:List eW)
  | func (f:Nat) (a b:List eW)

def bN.den:bN→Type
  | .leaf l=>l.den
  | .agg ps=>eW.av ps
  | .func _ a b=>eW.av a × eW.av b
def bN.enc:(p:bN)→p.den→V
  | .leaf l,x=>l.enc x
  | .agg ps,x => .agg (eW.cV ps x)
  | .func f a b,(x:eW.av a × eW.av b) => .func f (eW.cV a x.1) (eW.cV b x.2)
def Zl (ps:List eW):V→Option (eW.av ps) | .agg cs=>eW.El ps cs|_=>none
def TU (f:Nat) (a b:List eW):V→Option (eW.av a × eW.av b) | .func g x y=>if g=f then both (eW.El a x) (eW.El b y)else none|_=>none
def bN.dec:(p:bN)→V→Option p.den
  | .leaf l=>l.dec
  | .agg ps=>Zl ps
  | .func f a b=>TU f a b
theorem bN.HM (p:bN) {v:V} {x:p.den} (h:p.dec v=some x):v=p.enc x:=by
  cases p with
  | leaf l=>exact eW.HM l h
  | agg ps =>
    replace h:Zl ps v=some x:=h
    unfold Zl at h
    split at h
    · rename_i cs
      show V.agg cs = .agg (eW.cV ps x)
      rw[←eW.tO ps h]
    · cases h
  | func f a b =>
    replace h:TU f a b v=some x:=h
    unfold TU at h
    split at h
    · split at h
      · rename_i e
        subst e
        obtain ⟨h1,h2⟩:=LH h
        rename_i g p q
        show V.func g p q = .func g (eW.cV a x.1) (eW.cV b x.2)
        rw[←eW.tO a h1,←eW.tO b h2]
      · cases h
    · cases h
def bN.av:List bN→Type
  | []=>Unit
  | p::ps=>p.den × bN.av ps
def bN.cV:(ps:List bN)→bN.av ps→List V
  | [],_ => []
  | p::ps,(x:p.den × bN.av ps)=>p.enc x.1::bN.cV ps x.2
def bN.El:(ps:List bN)→List V→Option (bN.av ps)
  | [], []=>some ()
  | [],_::_=>none
  | _::_, []=>none
  | p::ps,v::vs=>both (p.dec v) (bN.El ps vs)
theorem bN.tO:∀(ps:List bN) {vs:List V} {x:bN.av ps},bN.El ps vs=some x→vs=bN.cV ps x
  | [], [],_,_=>rfl
  | [],_::_,_,h=>by cases h
  | _::_, [],_,h=>by cases h
  | p::ps,v::vs,x,h=>by
    obtain ⟨h1,h2⟩:=LH (a:=p.dec v) (b:=bN.El ps vs) h
    show v::vs=p.enc x.1::bN.cV ps x.2
    rw[←bN.HM p h1,←bN.tO ps h2]

inductive aH where
  | free|dead|tok|iter
  | cells (ps:List eW)
  | row (T:Ty)
  | kW (p:eW)
  | vL (K T:Ty)

def aH.den:aH→Type
  | .cells ps=>eW.av ps
  | .row T=>List T.den
  | .kW p=>p.den
  | .vL K T=>List (K.den × T.den)
  | .iter=>aj × Nat
  | _=>Unit
def aH.enc:(p:aH)→p.den→ca
  | .free,_ => .free
  | .dead,_ => .dead
  | .tok,_ => .tok
  | .iter,x => .iter (Prod.fst (α:=aj) (β:=Nat) x) (Prod.snd (α:=aj) (β:=Nat) x)
  | .cells ps,x => .cells (eW.cV ps x)
  | .row T,x => .row T x
  | .kW p,x => .kW (p.enc x)
  | .vL K T,x => .vL K T x
def Zm (p:eW):ca→Option p.den | .kW v=>p.dec v|_=>none
def Zn (ps:List eW):ca→Option (eW.av ps) | .cells cs=>eW.El ps cs|_=>none
def Zo (T:Ty):ca→Option (List T.den) | .row T' l=>if h:T'=T then some (h▸l)else none|_=>none
def Zp (K T:Ty):ca→Option (List (K.den × T.den)) | .vL K' T' l=>if h:K'=K∧T'=T then some (h.1▸h.2▸l)else none|_=>none
def Zq:ca→Option Unit | .free=>some ()|_=>none
def Zr:ca→Option Unit | .dead=>some ()|_=>none
def Zs:ca→Option (aj × Nat) | .iter s p=>some (s,p)|_=>none
def Zt:ca→Option Unit | .tok=>some ()|_=>none
def aH.dec:(p:aH)→ca→Option p.den
  | .free=>Zq
  | .dead=>Zr
  | .tok=>Zt
  | .iter=>Zs
  | .cells ps=>Zn ps
  | .row T=>Zo T
  | .kW p=>Zm p
  | .vL K T=>Zp K T
theorem aH.HM (p:aH) {o:ca} {x:p.den} (h:p.dec o=some x):o=p.enc x:=by
  cases p with
  | free=>replace h:Zq o=some x:=h; unfold Zq at h; split at h <;> first|rfl|cases h
  | dead=>replace h:Zr o=some x:=h; unfold Zr at h; split at h <;> first|rfl|cases h
  | tok=>replace h:Zt o=some x:=h; unfold Zt at h; split at h <;> first|rfl|cases h
  | iter=>replace h:Zs o=some x:=h; unfold Zs at h; split at h <;> first|(cases h; rfl)|cases h
  | cells ps =>
    replace h:Zn ps o=some x:=h
    unfold Zn at h
    split at h
    · rename_i cs
      show ca.cells cs = .cells (eW.cV ps x)
      rw[←eW.tO ps h]
    · cases h
  | kW p =>
    replace h:Zm p o=some x:=h
    unfold Zm at h
    split at h
    · rename_i v
      show ca.kW v = .kW (p.enc x)
      rw[←eW.HM p h]
    · cases h
  | vL K T =>
    replace h:Zp K T o=some x:=h
    unfold Zp at h
    split at h
    · split at h
      · rename_i e; obtain ⟨rfl,rfl⟩:=e; cases h; rfl
      · cases h
    · cases h
  | row T =>
    replace h:Zo T o=some x:=h
    unfold Zo at h
    split at h
    · split at h
      · rename_i e; subst e; cases h; rfl
      · cases h
    · cases h
def aH.av:List aH→Type
  | []=>Unit
  | p::ps=>p.den × aH.av ps
def aH.cV:(ps:List aH)→aH.av ps→az
  | [],_ => []
  | p::ps,(x:p.den × aH.av ps)=>p.enc x.1::aH.cV ps x.2
def aH.El:(ps:List aH)→List ca→Option (aH.av ps)
  | [], []=>some ()
  | [],_::_=>none
  | _::_, []=>none
  | p::ps,v::vs=>both (p.dec v) (aH.El ps vs)
theorem aH.tO:∀(ps:List aH) {vs:List ca} {x:aH.av ps},aH.El ps vs=some x→vs=aH.cV ps x
  | [], [],_,_=>rfl
  | [],_::_,_,h=>by cases h
  | _::_, [],_,h=>by cases h
  | p::ps,v::vs,x,h=>by
    obtain ⟨h1,h2⟩:=LH (a:=p.dec v) (b:=aH.El ps vs) h
    show v::vs=p.enc x.1::aH.cV ps x.2
    rw[←aH.HM p h1,←aH.tO ps h2]

theorem aH.R5:∀(ps:List aH) (x:aH.av ps),(aH.cV ps x).length=ps.length
  | [],_=>rfl
  | p::ps,x=>by
    show (p.enc x.1::aH.cV ps x.2).length=_
    simp[aH.R5 ps]

section
variable {R:Type} {P:Program} {tt:dO}

def aA (ps:List bN) (hs:List aH) (run:bN.av ps→aH.av hs→(V→az→Option R)→Option R) (other:Spec R):Spec R:=fun args h k =>
  match bN.El ps args,aH.El hs h with
  | some x,some y=>run x y k
  | _,_=>other args h k

def bg:Spec R:=fun _ _ _=>none

theorem aO (g:Nat):Spec.Ok P g (bg:Spec R):=by intro vs h k r hk; cases hk

theorem bu {g:Nat} {ps:List bN} {hs:List aH} {run:bN.av ps→aH.av hs→(V→az→Option R)→Option R} {other own:Spec R} (ho:Spec.Ok P g other) (hw:Spec.Yv P g hs.length own)
    (hr:∀x y k,own (bN.cV ps x) (aH.cV hs y) k=run x y k):Spec.Ok P g (aA ps hs run other):=by
  intro vs h k r hk
  unfold aA at hk
  split at hk
  · rename_i x y h1 h2
    rw[bN.tO ps h1,aH.tO hs h2]
    rw[←hr]at hk
    exact hw _ _ _ _ (aH.R5 hs y) hk
  · exact ho _ _ _ _ hk

def gu (ps:List bN) (hs:List aH) (run:bN.av ps→aH.av hs→(Ex→St→Option R)→Option R) (other:cr R):cr R:=fun st K =>
  match bN.El ps st.fr,aH.El hs st.hp with
  | some x,some y=>run x y K
  | _,_=>other st K

def qv:cr R:=fun _ _=>none

def o3 (tt:dO) (E:Env R) (L:Nat→Option (Hint × cr R)) (m:Nat) (a:Code) (hint:Hint) (ls:cr R):Prop :=
  ∀st (K:Ex→St→Option R) r,ls st K=some r→∃n,CM (lv tt E L m a) (norm m hint) n st (fun e st=>K e (trim m hint st))=some r

theorem jc {E:Env R} {L:Nat→Option (Hint × cr R)} {m:Nat} {a:Code} {hint:Hint}:o3 tt E L m a hint qv:=by intro st K r hk; cases hk

theorem WV {E:Env R} {L:Nat→Option (Hint × cr R)} {m:Nat} {a:Code} {hint:Hint} {ps:List bN} {hs:List aH} {run:bN.av ps→aH.av hs→(Ex→St→Option R)→Option R} {other:cr R} (ho:o3 tt E L m a hint other)
    (hr:∀x y K,∃n,CM (lv tt E L m a) (norm m hint) n ⟨bN.cV ps x,aH.cV hs y⟩ (fun e st=>K e (trim m hint st))=run x y K):o3 tt E L m a hint (gu ps hs run other):=by
  intro st K r hk
  obtain ⟨fr,hp⟩:=st
  unfold gu at hk
  simp only at hk
  split at hk
  · rename_i x y h1 h2
    rw[bN.tO ps h1,aH.tO hs h2]
    obtain ⟨n,hn⟩:=hr x y K
    exact ⟨n,by rw[hn]; exact hk⟩
  · exact ho _ _ _ hk

def aK (f:Func):Code:=f.body.getD .skip

theorem bG {E:Env R} {L:Nat→Option (Hint × cr R)} {m:Nat} {l:List Code} (n:Nat) (hn:l.length=n) (h:∀i,i<n→cR tt E L m (l.getD i .skip)):∀a∈l,cR tt E L m a:=by
  intro a ha
  obtain ⟨i,hi,rfl⟩:=List.mem_iff_getElem.1 ha
  have:=h i (by omega)
  simpa [List.getD,List.getElem?_eq_getElem hi]using this

theorem fC {E:Env R} {L:Nat→Option (Hint × cr R)} {m:Nat} {a:Code} {hint:Hint} {ls:cr R} (h:L (keyOf a)=some (hint,ls)) (hs:o3 tt E L m a hint ls):cR tt E L m a:=by
  intro hint' ls' hl
  rw[h]at hl
  cases hl
  exact hs

noncomputable def roundOf (tt:dO) (E:Env R) (L:Nat→Option (Hint × cr R)) (m:Nat) (a:Code) (hint:Hint) (st:St) (fy:St→Option R) (K:Ex→St→Option R):Option R :=
  lv tt E L m a st fun e tK=>match e with | .normal=>fy (norm m hint tK)|e=>K e (trim m hint tK)

theorem TV {E:Env R} {L:Nat→Option (Hint × cr R)} {m:Nat} {a:Code} {hint:Hint} {n:Nat} {st:St} {K:Ex→St→Option R} :
    CM (lv tt E L m a) (norm m hint) (n+1) st (fun e st=>K e (trim m hint st))=roundOf tt E L m a hint st (fun st=>CM (lv tt E L m a) (norm m hint) n st (fun e st=>K e (trim m hint st))) K:=by
  unfold roundOf
  simp only[CM]
  congr 1
end

section
variable {P:Program} {tt:dO} {w:World} {h:az} {c:kA}

theorem R6:∀l:List Value,cK w h c (l.map ofConst) l
  | [] => .nil
  | v::l => .cons (KB v) (R6 l)

def zeroOf (i:TypeInfo):Option (Nat × List V × Bool):=i.zero.map fun z=>(z.cells.size,z.cells.toList.map ofConst,z.oneCell')

def aE (P:Program) (tt:dO) (t:Nat):Prop :=
  ∃i,P.info? t=some i∧i.size=(tt.at t).size∧i.bytes=(tt.at t).bytes∧zeroOf i=some ((tt.at t).size,(tt.at t).zero, !tt.isAgg t)

theorem aE.spec {t:Nat} (h:aE P tt t):∃i z,P.info? t=some i∧i.size=(tt.at t).size∧i.bytes=(tt.at t).bytes∧i.zero=some z∧z.cells.size=i.size ∧
    ∀(w:World) (h:az) (c:kA),cK w h c (tt.at t).zero z.cells.toList:=by
  obtain ⟨i,h1,h2,h3,h4⟩:=h
  unfold zeroOf at h4
  cases hz:i.zero with
  | none=>rw[hz]at h4; cases h4
  | some z =>
    rw[hz]at h4
    simp only[Option.map_some,Option.some.injEq,Prod.mk.injEq]at h4
    refine ⟨i,z,h1,h2,h3,hz,by rw[h4.1,h2],fun w h c => ?_⟩
    rw[←h4.2.1]
    exact R6 _

theorem aE.one {t:Nat} (h:aE P tt t):∀i z,P.info? t=some i→i.zero=some z→z.oneCell' = !tt.isAgg t:=by
  intro i z hi hz
  obtain ⟨j,h1,h2,h3,h4⟩:=h
  rw[hi]at h1; cases h1
  unfold zeroOf at h4
  rw[hz]at h4
  simp only[Option.map_some,Option.some.injEq,Prod.mk.injEq]at h4
  exact h4.2.2

theorem u8s_of (h:(List.range tt.length).all (fun e=>match (tt.at e).ty with|some (.int .u8)=>Nat.beq e oZ.u8|_=>true)=true):∀e,(tt.at e).ty=some (.int .u8)→e=oZ.u8:=by
  intro e he
  by_cases hl:e<tt.length
  · have:=List.all_eq_true.1 h e (by simpa using hl)
    rw[he]at this
    exact Nat.eq_of_beq_eq_true this
  · have:tt.at e=TI.none:=by unfold dO.at; simp[List.getD,List.getElem?_eq_none (Nat.le_of_not_lt hl)]
    rw[this]at he; cases he

def bldOk (tt:dO) (t:Nat):Bool:=Nat.beq t oZ.kW&&tt.ok t&&(match (tt.at t).zero with | [.eQ, .cJ]=>true|_=>false)
theorem blds_of (h:(List.range tt.length).all (fun t=>bif (tt.at t).kW then bldOk tt t else true)=true):∀t,(tt.at t).kW=true→t=oZ.kW∧(tt.at t).zero = [.eQ, .cJ]∧tt.ok t=true:=by
  intro t ht
  by_cases hl:t<tt.length
  · have:=List.all_eq_true.1 h t (by simpa using hl)
    rw[ht]at this
    simp only[cond_true,bldOk,Bool.and_eq_true]at this
    obtain ⟨⟨h1,h2⟩,h3⟩:=this
    refine ⟨Nat.eq_of_beq_eq_true h1,?_,h2⟩
    split at h3
    · assumption
    · cases h3
  · have:tt.at t=TI.none:=by unfold dO.at; simp[List.getD,List.getElem?_eq_none (Nat.le_of_not_lt hl)]
    rw[this]at ht; cases ht

theorem Qy {n t:Nat} (hn:tt.length=n) (ht:n≤t):tt.at t=TI.none:=by
  unfold dO.at
  rw[List.getD,List.getElem?_eq_none (by omega)]
  rfl

theorem Zu {n t:Nat} (hn:tt.length=n) (ht:n≤t):(tt.at t).d.Is P t:=by rw[Qy hn ht]; trivial
theorem ok_past {n t:Nat} (hn:tt.length=n) (ht:n≤t) (h:tt.ok t=true):False:=by
  unfold dO.ok at h
  rw[Qy hn ht]at h
  cases h
theorem eq_past {n t:Nat} (hn:tt.length=n) (ht:n≤t) (h:(tt.at t).eq=true):False:=by
  rw[Qy hn ht]at h
  cases h
end

section
variable {P:Program} {tt:dO} {w:World} {h:az} {c:kA}

def TW (P:Program) (ty:TypeId) (z:V):Prop :=
  (∃k n,z = .int k n∧P.underlying ty=some (.int k))∨(∃s,z = .str s∧P.underlying ty=some .string)∨(∃b,z = .bool b∧P.underlying ty=some .bool)

theorem Gy {ty:TypeId} {z:V} (s:TW P ty z) {xs:Array Value} {j:Nat} {x:Value} (hx:xs[j]? = some x):(part ty xs j).run P w = .ok x w:=by
  rcases s with ⟨k,n,_,hu⟩|⟨n,_,hu⟩|⟨n,_,hu⟩ <;> simp[part,Go.isAgg,run_underlying hu,hx]

theorem eqF (d:Nat) (xs ys:Array Value):∀(fs:List Field) (zs cs ds:List V) (j:Nat) (b:Bool),(∀i f z,fs[i]? = some f→zs[i]? = some z→f.name ≠ "_" ∧ f.offset=j+i∧TW P f.type z)→fs.length=zs.length →
    fw zs cs=true→fw zs ds=true→mD cs ds=some b→(∀i v,cs[i]? = some v→∃x,xs[j+i]? = some x∧dK w h c v x)→(∀i v,ds[i]? = some v→∃x,ys[j+i]? = some x∧dK w h c v x) →
    (Op.eqFields (d+1) xs ys fs).run P w = .ok b w
  | [],zs,cs,ds,j,b,_,hl,hc,hd,he,_,_=>by
    have:zs = []:=List.eq_nil_of_length_eq_zero hl.symm
    subst this
    cases cs with
    | cons=>cases hc
    | nil =>
      cases ds with
      | cons=>cases hd
      | nil=>cases he; simp[Op.eqFields]
  | f::fs, [],_,_,_,_,_,hl,_,_,_,_,_=>by cases hl
  | f::fs,z::zs,cs,ds,j,b,hf,hl,hc,hd,he,hx,hy=>by
    obtain ⟨h1,h2,h3⟩:=hf 0 f z rfl rfl
    have Wn:∀i g y,fs[i]? = some g→zs[i]? = some y→g.name ≠ "_" ∧ g.offset=(j+1)+i∧TW P g.type y:=fun i g y hg hy=>by
      have:=hf (i+1) g y (by simpa using hg) (by simpa using hy)
      exact ⟨this.1,by omega,this.2.2⟩
    have XQ:fs.length=zs.length:=by simpa using hl
    cases cs with
    | nil=>cases z <;> cases hc
    | cons c0 cs =>
      cases ds with
      | nil=>cases z <;> cases hd
      | cons d0 ds =>
        obtain ⟨x,hx0,rx⟩:=hx 0 c0 rfl
        obtain ⟨y,hy0,ry⟩:=hy 0 d0 rfl
        have R1:∀i v,cs[i]? = some v→∃x,xs[(j+1)+i]? = some x∧dK w h c v x:=fun i v hv=>by
          obtain ⟨x,q1,q2⟩:=hx (i+1) v (by simpa using hv)
          exact ⟨x,by rw[←q1]; congr 1; omega,q2⟩
        have hy':∀i v,ds[i]? = some v→∃x,ys[(j+1)+i]? = some x∧dK w h c v x:=fun i v hv=>by
          obtain ⟨x,q1,q2⟩:=hy (i+1) v (by simpa using hv)
          exact ⟨x,by rw[←q1]; congr 1; omega,q2⟩
        have p1:=Gy (w:=w) h3 hx0
        have p2:=Gy (w:=w) h3 hy0
        have fin:∀(r:Bool),(Op.equalIn (d+1) f.type x y).run P w = .ok r w→∀b',mD cs ds=some b'→fw zs cs=true→fw zs ds=true→b=(r&&b')→(Op.eqFields (d+1) xs ys (f::fs)).run P w = .ok b w:=by
          intro r hr b' pQ kc kd hb
          subst hb
          have ih:=eqF d xs ys fs zs cs ds (j+1) b' Wn XQ kc kd pQ R1 hy'
          simp only[Op.eqFields,h1,ne_eq,not_false_eq_true,if_true,Sem.run_bind,h2,Nat.add_zero,p1,p2,Result.andThen_ok,hr]
          simp only[Nat.add_zero]at p1 p2
          simp only[p1,p2,Result.andThen_ok,hr]
          cases r with
          | true=>simpa using ih
          | false=>simp
        rcases h3 with ⟨k,n,rfl,hu⟩|⟨s,rfl,hu⟩|⟨q,rfl,hu⟩
        · cases c0 with
          | int k1 n1 =>
            cases d0 with
            | int k2 n2 =>
              simp only[fw,Bool.and_eq_true,decide_eq_true_eq]at hc hd
              obtain ⟨rfl,hc⟩:=hc
              obtain ⟨rfl,hd⟩:=hd
              cases rx
              cases ry
              simp only[mD,if_true]at he
              split at he
              · rename_i b' pQ
                cases he
                exact fin _ (run_equalIn_int w d _ _ _ _ _ hu) b' pQ hc hd rfl
              · cases he
            | _=>simp[fw]at hd
          | _=>simp[fw]at hc
        · cases c0 with
          | str s1 =>
            cases d0 with
            | str s2 =>
              simp only[fw]at hc hd
              cases rx
              cases ry
              simp only[mD]at he
              split at he
              · rename_i b' pQ
                cases he
                refine fin _ (run_equalIn_string w d _ _ _ hu) b' pQ hc hd ?_
                congr 1
                simp only[ByteArray.toList_eq]
              · cases he
            | _=>simp[fw]at hd
          | _=>simp[fw]at hc
        · cases c0 with
          | bool s1 =>
            cases d0 with
            | bool s2 =>
              simp only[fw]at hc hd
              cases rx
              cases ry
              simp only[mD]at he
              split at he
              · rename_i b' pQ
                cases he
                exact fin _ (run_equalIn_bool' w d _ _ _ hu) b' pQ hc hd rfl
              · cases he
            | _=>simp[fw]at hd
          | _=>simp[fw]at hc

def FlatT (P:Program) (ty:TypeId) (g:List V):Prop :=
  P.underlying ty=some (.struct (P.fieldsOf ty))∧P.stoodInHeld ty=false∧(∃i,P.info? ty=some i)∧P.cellsOf ty=g.length∧(P.fieldsOf ty).toList.length=g.length ∧
    ∀i f z,(P.fieldsOf ty).toList[i]? = some f→g[i]? = some z→f.name ≠ "_" ∧ f.offset=0+i∧TW P f.type z

def Qz (P:Program):List Field→List (List V)→Nat→Prop
  | [], [],_=>True
  | f::fs,g::gs,j=>f.name ≠ "_" ∧ f.offset=j∧((∃z,g = [z]∧TW P f.type z)∨FlatT P f.type g)∧Qz P fs gs (j+g.length)
  | _,_,_=>False

theorem FN:∀ {zs cs:List V},fw zs cs=true→cs.length=zs.length
  | [], [],_=>rfl
  | [],_::_,h=>by cases h
  | z::_, [],h=>by cases z <;> cases h
  | z::zs,c::cs,h=>by
    have:fw zs cs=true:=by
      cases z <;> cases c <;> simp[fw]at h
      · exact h.2
      · exact h
      · exact h
    simp[FN this]

theorem Db:∀ {g zs cs:List V},fw (g++zs) cs=true→fw g (cs.take g.length)=true∧fw zs (cs.drop g.length)=true
  | [],zs,cs,h=>by simpa [fw]using h
  | z::g,zs, [],h=>by cases z <;> cases h
  | z::g,zs,c::cs,h=>by
    have key:fw (g++zs) cs=true:=by
      cases z <;> cases c <;> simp[fw]at h
      · exact h.2
      · exact h
      · exact h
    obtain ⟨h1,h2⟩:=Db key
    refine ⟨?_,by simpa using h2⟩
    simp only[List.length_cons,List.take_succ_cons]
    cases z <;> cases c <;> simp[fw]at h ⊢
    · exact ⟨h.1,h1⟩
    · exact h1
    · exact h1

theorem zu:∀(n:Nat) {cs ds:List V} {b:Bool},mD cs ds=some b→n≤cs.length→∃b1 b2,mD (cs.take n) (ds.take n)=some b1∧mD (cs.drop n) (ds.drop n)=some b2∧b=(b1&&b2)
  | 0,cs,ds,b,h,_=>⟨true,b,by simp[mD],by simpa using h,by simp⟩
  | n+1, [],_,_,_,hn=>by simp at hn
  | n+1,c::cs, [],b,h,_=>by cases c <;> cases h
  | n+1,c::cs,d::ds,b,h,hn=>by
    have Q1:n≤cs.length:=by simpa using hn
    simp only[List.take_succ_cons,List.drop_succ_cons]
    cases c <;> cases d <;> simp only[mD]at h ⊢ <;> try (first|cases h)
    · split at h
      · rename_i e
        rw[if_pos e]
        split at h
        · rename_i r hr
          cases h
          obtain ⟨b1,b2,h1,h2,h3⟩:=zu n hr Q1
          rw[h1]
          exact ⟨_,b2,rfl,h2,by rw[h3,Bool.and_assoc]⟩
        · cases h
      · cases h
    · split at h
      · rename_i r hr
        cases h
        obtain ⟨b1,b2,h1,h2,h3⟩:=zu n hr Q1
        rw[h1]
        exact ⟨_,b2,rfl,h2,by rw[h3,Bool.and_assoc]⟩
      · cases h
    · split at h
      · rename_i r hr
        cases h
        obtain ⟨b1,b2,h1,h2,h3⟩:=zu n hr Q1
        rw[h1]
        exact ⟨_,b2,rfl,h2,by rw[h3,Bool.and_assoc]⟩
      · cases h

theorem Ph {ty:TypeId} {g:List V} (s:FlatT P ty g) {xs:Array Value} {j:Nat}:(part ty xs j).run P w = .ok (.agg (xs.extract j (j+g.length))) w:=by
  obtain ⟨h1,_,⟨i,h3⟩,h4,_⟩:=s
  have hs:(sizeOf ty).run P w = .ok g.length w:=by
    have:P.cellsOf ty=i.size:=by simp[Program.cellsOf,h3]
    rw[←h4,this]
    simp[sizeOf,typeInfo,h3]
  simp[part,Go.isAgg,run_underlying h1,hs]

theorem eqG (d:Nat) (xs ys:Array Value):∀(fs:List Field) (gs:List (List V)) (cs ds:List V) (j:Nat) (b:Bool),Qz P fs gs j→fw gs.flatten cs=true→fw gs.flatten ds=true→mD cs ds=some b →
    (∀i v,cs[i]? = some v→∃x,xs[j+i]? = some x∧dK w h c v x)→(∀i v,ds[i]? = some v→∃x,ys[j+i]? = some x∧dK w h c v x)→(Op.eqFields (d+2) xs ys fs).run P w = .ok b w
  | [], [],cs,ds,j,b,_,hc,hd,he,_,_=>by
    cases cs with
    | cons=>cases hc
    | nil =>
      cases ds with
      | cons=>cases hd
      | nil=>cases he; simp[Op.eqFields]
  | [],_::_,_,_,_,_,hn,_,_,_,_,_=>by cases hn
  | _::_, [],_,_,_,_,hn,_,_,_,_,_=>by cases hn
  | f::fs,g::gs,cs,ds,j,b,hn,hc,hd,he,hx,hy=>by
    obtain ⟨n1,n2,n3,n4⟩:=hn
    rw[List.flatten_cons]at hc hd
    obtain ⟨c1,c2⟩:=Db hc
    obtain ⟨d1,d2⟩:=Db hd
    have lc:=FN hc
    have ld:=FN hd
    rw[List.length_append]at lc ld
    obtain ⟨b1,b2,e1,e2,rfl⟩:=zu g.length he (by omega)
    have behind:∀ {cs:List V} {xs:Array Value},(∀i v,cs[i]? = some v→∃x,xs[j+i]? = some x∧dK w h c v x)→∀i v,(cs.drop g.length)[i]? = some v→∃x,xs[(j+g.length)+i]? = some x∧dK w h c v x:=by
      intro cs xs hx i v hv
      rw[List.getElem?_drop]at hv
      obtain ⟨x,q1,q2⟩:=hx _ v hv
      exact ⟨x,by rw[←q1]; congr 1; omega,q2⟩
    have ih:=eqG d xs ys fs gs _ _ (j+g.length) b2 n4 c2 d2 e2 (behind hx) (behind hy)
    -- what the field is
    have key:∃x y,(part f.type xs j).run P w = .ok x w∧(part f.type ys j).run P w = .ok y w∧(Op.equalIn (d+2) f.type x y).run P w = .ok b1 w:=by
      rcases n3 with ⟨z,rfl,hz⟩|hF
      · -- one cell: the flat case, alone
        cases cs with
        | nil=>simp only[List.length_nil,List.length_cons]at lc; omega
        | cons c0 cs =>
          cases ds with
          | nil=>simp only[List.length_nil,List.length_cons]at ld; omega
          | cons d0 ds =>
            simp only[List.length_cons,List.length_nil,Nat.zero_add,List.take_succ_cons,List.take_zero]at c1 d1 e1
            obtain ⟨x,hx0,rx⟩:=hx 0 c0 rfl
            obtain ⟨y,hy0,ry⟩:=hy 0 d0 rfl
            rw[Nat.add_zero]at hx0 hy0
            refine ⟨x,y,Gy hz hx0,Gy hz hy0,?_⟩
            rcases hz with ⟨k,n,rfl,hu⟩|⟨s,rfl,hu⟩|⟨q,rfl,hu⟩
            · cases c0 <;> simp[fw]at c1
              cases d0 <;> simp[fw]at d1
              subst c1 d1
              cases rx
              cases ry
              simp only[mD,if_true,Option.some.injEq]at e1
              subst e1
              rw[Bool.and_true]
              exact run_equalIn_int w (d+1) _ _ _ _ _ hu
            · cases c0 <;> simp[fw]at c1
              cases d0 <;> simp[fw]at d1
              cases rx
              cases ry
              simp only[mD,Option.some.injEq]at e1
              subst e1
              rw[Bool.and_true]
              refine (run_equalIn_string w (d+1) f.type _ _ hu).trans ?_
              congr 1
              simp only[ByteArray.toList_eq]
            · cases c0 <;> simp[fw]at c1
              cases d0 <;> simp[fw]at d1
              cases rx
              cases ry
              simp only[mD,Option.some.injEq]at e1
              subst e1
              rw[Bool.and_true]
              exact run_equalIn_bool' w (d+1) _ _ _ hu
      · refine ⟨_,_,Ph hF,Ph hF,?_⟩
        obtain ⟨h1,h2,h3,h4,h5,h6⟩:=hF
        rw[run_equalIn_struct w (d+1) f.type _ _ h1 h2]
        have at0:∀ {cs:List V} {xs:Array Value},(∀i v,cs[i]? = some v→∃x,xs[j+i]? = some x∧dK w h c v x)→∀i v,(cs.take g.length)[i]? = some v→∃x,(xs.extract j (j+g.length))[0+i]? = some x∧dK w h c v x:=by
          intro cs xs hx i v hv
          have hi:i<g.length:=by
            have:=(List.getElem?_eq_some_iff.1 hv).1
            rw[List.length_take]at this
            omega
          rw[List.getElem?_take_of_lt hi]at hv
          obtain ⟨x,q1,q2⟩:=hx i v hv
          refine ⟨x,?_,q2⟩
          rw[Nat.zero_add,Array.getElem?_extract]
          have qL:j+i<xs.size:=(Array.getElem?_eq_some_iff.1 q1).1
          rw[if_pos (by omega),q1]
        exact eqF d _ _ _ _ _ _ 0 b1 h6 h5 c1 d1 e1 (at0 hx) (at0 hy)
    obtain ⟨x,y,p1,p2,hr⟩:=key
    simp only[Op.eqFields,n1,ne_eq,not_false_eq_true,if_true,Sem.run_bind,n2,p1,p2,Result.andThen_ok,hr]
    cases b1 with
    | true=>simpa using ih
    | false=>simp

def J0 (P:Program) (tt:dO) (t:Nat):Prop :=
  P.underlying t=some (.struct (P.fieldsOf t))∧P.stoodInHeld t=false∧P.eqGuardType P.depth t=false∧∃gs,gs.flatten=(tt.at t).zero∧Qz P (P.fieldsOf t).toList gs 0

def Vi (P:Program) (ty:TypeId):V→Bool
  | .int k _=>(match P.underlying ty with|some (.int k')=>decide (k'=k)|_=>false)
  | .str _=>(match P.underlying ty with|some .string=>true|_=>false)
  | .bool _=>(match P.underlying ty with|some .bool=>true|_=>false)
  | _=>false

theorem MQ {ty:TypeId} {z:V} (h:Vi P ty z=true):TW P ty z:=by
  unfold Vi at h
  split at h
  · split at h
    · rename_i k n _ k' hu
      have e:k'=k:=by simpa using h
      subst e
      exact .inl ⟨_,_,rfl,hu⟩
    · cases h
  · split at h
    · rename_i hu; exact .inr (.inl ⟨_,rfl,hu⟩)
    · cases h
  · split at h
    · rename_i hu; exact .inr (.inr ⟨_,rfl,hu⟩)
    · cases h
  · cases h

def Vj (P:Program):List Field→List V→Nat→Bool
  | [], [],_=>true
  | f::fs,z::zs,j=>decide (f.name ≠ "_")&&decide (f.offset=j)&&Vi P f.type z&&Vj P fs zs (j+1)
  | _,_,_=>false

theorem MR:∀(fs:List Field) (zs:List V) (j:Nat),Vj P fs zs j=true→fs.length=zs.length∧∀i f z,fs[i]? = some f→zs[i]? = some z→f.name ≠ "_" ∧ f.offset=j+i∧TW P f.type z
  | [], [],_,_=>⟨rfl,fun i f z h=>by simp at h⟩
  | [],_::_,_,h=>by cases h
  | _::_, [],_,h=>by cases h
  | f::fs,z::zs,j,h=>by
    simp only[Vj,Bool.and_eq_true,decide_eq_true_eq]at h
    obtain ⟨⟨⟨h1,h2⟩,h3⟩,h4⟩:=h
    obtain ⟨g1,g2⟩:=MR fs zs (j+1) h4
    refine ⟨by simp[g1],fun i g y hg hy => ?_⟩
    cases i with
    | zero =>
      simp at hg hy
      subst hg; subst hy
      exact ⟨h1,h2,MQ h3⟩
    | succ i =>
      obtain ⟨q1,q2,q3⟩:=g2 i g y (by simpa using hg) (by simpa using hy)
      exact ⟨q1,by omega,q3⟩

def flatB (P:Program) (ty:TypeId) (g:List V):Bool :=
  (match P.info? ty with|some _=>true|none=>false)&&Nat.beq (P.cellsOf ty) g.length && !P.stoodInHeld ty&&Vj P (P.fieldsOf ty).toList g 0
def Pj (P:Program):List Field→List V→Nat→Bool
  | [],zs,_=>zs.isEmpty
  | f::fs,zs,j =>
    decide (f.name ≠ "_")&&decide (f.offset=j) &&
      (match P.underlying f.type with
       | some (.struct fl)=>flatB P f.type (zs.take fl.size)&&Pj P fs (zs.drop fl.size) (j+fl.size)
       | _=>(match zs with|z::zr=>Vi P f.type z&&Pj P fs zr (j+1) | []=>false))

theorem HN:∀(fs:List Field) (zs:List V) (j:Nat),Pj P fs zs j=true→∃gs:List (List V),gs.flatten=zs∧Qz P fs gs j
  | [],zs,j,h=>⟨[],by simpa [Pj]using h.symm,trivial⟩
  | f::fs,zs,j,h=>by
    simp only[Pj,Bool.and_eq_true,decide_eq_true_eq]at h
    obtain ⟨⟨h1,h2⟩,h3⟩:=h
    split at h3
    · rename_i fl hu
      rw[Bool.and_eq_true]at h3
      obtain ⟨g1,g2⟩:=h3
      have hfo:P.fieldsOf f.type=fl:=by simp[Program.fieldsOf,hu]
      obtain ⟨gs,e1,e2⟩:=HN fs _ _ g2
      unfold flatB at g1
      simp only[Bool.and_eq_true,Bool.not_eq_true']at g1
      obtain ⟨⟨⟨k1,k2⟩,k3⟩,k4⟩:=g1
      obtain ⟨q1,q2⟩:=MR _ _ _ k4
      have hlen:(zs.take fl.size).length=fl.size:=by rw[←q1,hfo]; simp
      refine ⟨zs.take fl.size::gs,by rw[List.flatten_cons,e1,List.take_append_drop],h1,h2, .inr ⟨by rw[hfo]; exact hu,k3,?_,Nat.eq_of_beq_eq_true k2,q1,q2⟩,by rw[hlen]; exact e2⟩
      cases hi:P.info? f.type with
      | none=>rw[hi]at k1; cases k1
      | some i=>exact ⟨i,rfl⟩
    · split at h3
      · rename_i z zr
        rw[Bool.and_eq_true]at h3
        obtain ⟨gs,e1,e2⟩:=HN fs _ _ h3.2
        exact ⟨[z]::gs,by rw[List.flatten_cons,e1]; rfl,h1,h2, .inl ⟨z,rfl,MQ h3.1⟩,e2⟩
      · cases h3

theorem J0.of {t:Nat} (h1:P.underlying t=some (.struct (P.fieldsOf t))) (h2:P.stoodInHeld t=false) (h3:P.eqGuardType P.depth t=false) (h4:Pj P (P.fieldsOf t).toList (tt.at t).zero 0=true):J0 P tt t :=
  ⟨h1,h2,h3,HN _ _ _ h4⟩

theorem eqOk_eq {i:TI} {a b:List V} (h:P4 i a b=true):i.eq=true:=by
  unfold P4 at h
  simp only[Bool.and_eq_true]at h
  exact h.1.1

theorem Zv {t:Nat} (e:J0 P tt t) {cs ds:List V} {xs ys:Array Value} {b:Bool} (hk:P4 (tt.at t) cs ds=true) (rx:cK w h c cs xs.toList) (ry:cK w h c ds ys.toList) (hb:mD cs ds=some b) :
    P.eqGuardType P.depth t=false∧(Op.equalIn 10000 t (.agg xs) (.agg ys)).run P w = .ok b w:=by
  obtain ⟨e1,e2,e3,gs,e4,e5⟩:=e
  refine ⟨e3,?_⟩
  unfold P4 at hk
  simp only[Bool.and_eq_true]at hk
  rw[run_equalIn_struct w 9999 t xs ys e1 e2]
  have get:∀ {cs:List V} {xs:Array Value},cK w h c cs xs.toList→∀i v,cs[i]? = some v→∃x,xs[0+i]? = some x∧dK w h c v x:=by
    intro cs xs r i v hv
    have hi:=(List.getElem?_eq_some_iff.1 hv).1
    have hl:i<xs.size:=by have:=r.1; simp at this; omega
    refine ⟨xs[i],by simp[hl],r.2 i v _ hv (by simp[hl])⟩
  exact eqG 9997 xs ys _ gs cs ds 0 b e5 (by rw[e4]; exact hk.1.2) (by rw[e4]; exact hk.2) hb (get rx) (get ry)
end

section
variable {R:Type} {P:Program} {tt:dO}

mutual
def Json.depth:Json→Nat
  | ⟨_,_,_,_,l⟩=>Json.B2 l+1
def Json.B2:List Json→Nat
  | []=>0
  | x::l=>max x.depth (Json.B2 l)
end
mutual
def Raw.depth:Raw→Nat
  | ⟨_,_,_,_,l⟩=>Raw.B2 l+1
def Raw.B2:List Raw→Nat
  | []=>0
  | x::l=>max x.depth (Raw.B2 l)
end

def iZ.fu (x:iZ):Nat:=x.aB.natAbs+x.exp.natAbs
def Json.fu (x:Json):Nat:=x.text.length+x.names.length+x.items.length
def Raw.fu (x:Raw):Nat:=x.text.length+x.items.length
def GJ.fu (x:GJ):Nat:=x.kind.natAbs+x.aB.natAbs+x.exp.natAbs+x.text.length
def Fld.fu (x:Fld):Nat:=x.name.length
def Og.fu (x:Og):Nat:=x.topic.length+x.data.length
def Token.fu (x:Token):Nat:=x.text.length
def Stop.fu (x:Stop):Nat:=0
def Way.fu (x:Way):Nat:=0
def Order.fu (x:Order):Nat:=x.header.natAbs+x.tI.length+x.order.natAbs+x.update.natAbs+x.nodes.length+x.LU.length
def Edge.fu (x:Edge):Nat:=0
def C5.fu (x:C5):Nat:=x.nodes.natAbs+x.LU.length
def Ha.fu (x:Ha):Nat:=x.maker.length+x.X5.length+x.kind.length
def State.fu (x:State):Nat:=x.header.natAbs+x.X6.natAbs+x.tI.length+x.order.natAbs+x.update.natAbs+x.node.natAbs+x.seq.natAbs+x.accepted.natAbs
def Ctl.fu (x:Ctl):Nat:=x.tI.length+x.header.natAbs+x.order.natAbs+x.update.natAbs+x.X6.natAbs+x.seen.natAbs+x.path.length+x.seq.natAbs+x.rel.natAbs+x.pending.header.natAbs+x.pending.tI.length+x.pending.order.natAbs+x.pending.update.natAbs+x.pending.nodes.length+x.pending.LU.length
def Oh.fu (x:Oh):Nat:=x.kind.natAbs+x.i.natAbs+x.k.natAbs+x.by_.natAbs+x.data.length
def ET.fu (x:ET):Nat:=x.header.natAbs+x.order.natAbs+x.update.natAbs+x.seq.natAbs+x.from_.natAbs+x.zN.natAbs+x.turns.length
def Oi.fu (x:Oi):Nat:=x.kind.natAbs+x.o.header.natAbs+x.o.order.natAbs+x.o.update.natAbs+x.o.seq.natAbs+x.o.from_.natAbs+x.o.zN.natAbs+x.o.turns.length+x.data.length
def Oj.fu (x:Oj):Nat:=x.kind.natAbs+x.n.natAbs+x.turns.length
def Ol.fu (x:Ol):Nat:=x.a.natAbs+x.b.natAbs+x.c.natAbs
def KX.fu (x:KX):Nat:=x.a.natAbs+x.b.natAbs
def Om.fu (x:Om):Nat:=x.a.aB.natAbs+x.a.exp.natAbs+x.b.aB.natAbs+x.b.exp.natAbs
def On.fu (x:On):Nat:=x.name.length+x.home.natAbs
def Job.fu (x:Job):Nat:=x.id.natAbs+x.target.natAbs+x.state.natAbs+x.tI.natAbs
def C6.fu (x:C6):Nat:=x.kind.natAbs+x.nums.length+x.text.length

theorem Em (rs:List Ty) (t:Nat):∃b,(tt.mode rs).at t = { tt.at t with rowy:=b }:=by
  unfold dO.mode dO.at
  simp only[List.getD,List.getElem?_map]
  cases tt[t]? with
  | none=>exact ⟨false,rfl⟩
  | some i=>exact ⟨_,rfl⟩

theorem QA (rs:List Ty) (t:Nat):(tt.mode rs).ok t=tt.ok t:=by
  obtain ⟨b,h⟩:=Em (tt:=tt) rs t
  unfold dO.ok
  rw[h]

theorem yb.mode (T:yb P tt) (rs:List Ty):yb P (tt.mode rs) where
  und:=fun t=>by obtain ⟨b,h⟩:=Em (tt:=tt) rs t; rw[h]; exact T.und t
  info:=fun t ht=>by
    rw[QA]at ht
    obtain ⟨b,h⟩:=Em (tt:=tt) rs t
    rw[h]
    exact T.info t ht
  eqs:=fun t w h c cs ds xs ys b hk=>by
    obtain ⟨b',h'⟩:=Em (tt:=tt) rs t
    rw[h']at hk
    exact T.eqs t w h c cs ds xs ys b hk
  u8s:=fun e he=>by
    obtain ⟨b,h⟩:=Em (tt:=tt) rs e
    rw[h]at he
    exact T.u8s e he
  blds:=fun t ht=>by
    obtain ⟨b,h⟩:=Em (tt:=tt) rs t
    rw[h]at ht
    rw[QA,h]
    exact T.blds t ht
  ones:=fun t ht=>by
    rw[QA]at ht
    obtain ⟨b,h⟩:=Em (tt:=tt) rs t
    have e:(tt.mode rs).isAgg t=tt.isAgg t:=by unfold dO.isAgg; rw[h]
    rw[e]
    exact T.ones t ht

theorem kB {D:Type} {E:Env R} {L:Nat→Option (Hint × cr R)} {m:Nat} {a:Code} {hint:Hint} (enc:D→St)
    (s:(Ex→St→Option R)→(D→Option R)→D→Option R) (A:(Ex→St→Option R)→Nat→D→Option R)
    (h0:∀K d,A K 0 d=none)
    (hB:∀K fy d,roundOf tt E L m a hint (enc d) fy K=s K (fun d=>fy (enc d)) d)
    (hA:∀K n d,A K (n+1) d=s K (A K n) d) (K:Ex→St→Option R) :
    ∀n d,CM (lv tt E L m a) (norm m hint) n (enc d) (fun e st=>K e (trim m hint st))=A K n d
  | 0,d=>(h0 K d).symm
  | n+1,d=>by
    rw[TV,hB,hA]
    exact congrArg (fun q=>s K q d) (funext fun d=>kB enc s A h0 hB hA K n d)

theorem gN {D:Type} {E:Env R} {L:Nat→Option (Hint × cr R)} {m:Nat} {a:Code} {hint:Hint} {ps:List bN} {hs:List aH}
    {run:bN.av ps→aH.av hs→(Ex→St→Option R)→Option R} {other:cr R} {enc:D→St} {A:(Ex→St→Option R)→Nat→D→Option R}
    (ho:o3 tt E L m a hint other)
    (tie:∀K n d,CM (lv tt E L m a) (norm m hint) n (enc d) (fun e st=>K e (trim m hint st))=A K n d)
    (fuel:bN.av ps→aH.av hs→Nat) (dat:bN.av ps→aH.av hs→D)
    (henc:∀x y,(⟨bN.cV ps x,aH.cV hs y⟩:St)=enc (dat x y))
    (mZ:∀x y K,run x y K=A K (fuel x y) (dat x y)):o3 tt E L m a hint (gu ps hs run other) :=
  WV ho fun x y K=>⟨fuel x y,by rw[henc,mZ]; exact tie K _ _⟩

theorem DI {g:Nat} {ps:List bN} {hs:List aH} {run:Nat→bN.av ps→aH.av hs→(V→az→Option R)→Option R} {other:Spec R}
    (fuel:bN.av ps→aH.av hs→Nat) (ho:Spec.Ok P g other)
    (h:∀n,Spec.Ok P g (aA ps hs (run n) bg)):Spec.Ok P g (aA ps hs (fun x y k=>run (fuel x y) x y k) other):=by
  intro vs hp k r hk
  unfold aA at hk
  split at hk
  · rename_i x y h1 h2
    refine h (fuel x y) vs hp k r ?_
    unfold aA
    rw[h1,h2]
    exact hk
  · exact ho _ _ _ _ hk

theorem wB {g:Nat} {ps:List bN} {hs:List aH} {run:Nat→bN.av ps→aH.av hs→(V→az→Option R)→Option R}
    (h0:∀x y k,run 0 x y k=none)
    (hs':∀n,Spec.Ok P g (aA ps hs (run n) bg)→Spec.Ok P g (aA ps hs (run (n+1)) bg)):∀n,Spec.Ok P g (aA ps hs (run n) bg)
  | 0=>by
    intro vs hp k r hk
    unfold aA at hk
    split at hk
    · rw[h0]at hk; cases hk
    · cases hk
  | n+1=>hs' n (wB h0 hs' n)

theorem B3 {g:Nat} {ps:List bN} {hs:List aH} {run run':bN.av ps→aH.av hs→(V→az→Option R)→Option R} {other:Spec R}
    (h:Spec.Ok P g (aA ps hs run other)) (e:run'=run):Spec.Ok P g (aA ps hs run' other):=e▸h
end
abbrev oP (s:aj):List Int:=Hw s
end Go.ay

